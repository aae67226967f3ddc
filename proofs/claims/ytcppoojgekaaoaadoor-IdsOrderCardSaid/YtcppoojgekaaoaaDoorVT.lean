/- The program's types, as the abstract states ask for them: written by program. -/
import Derived.Test.YtcppoojgekaaoaaDoorProg
import Derived.Test.YtcppoojgekaaoaaDoorV17
namespace Go.Proofs.YtcppoojgekaaoaaDoor.V
open Go
set_option maxRecDepth 100000
@[simp] theorem t_sz0 : sizeT Go.Proofs.Tryd.prog 0 = Option.some 1 := by kernel_rfl
@[simp] theorem t_by0 : bytesT Go.Proofs.Tryd.prog 0 = Option.some 0 := by kernel_rfl
@[simp] theorem t_ag0 : isAggT Go.Proofs.Tryd.prog 0 = Option.some Bool.false := by kernel_rfl
@[simp] theorem t_za0 : zeroA Go.Proofs.Tryd.prog 0 = Option.some (AV.tuple []) := by kernel_rfl
@[simp] theorem t_sz1 : sizeT Go.Proofs.Tryd.prog 1 = Option.some 1 := by kernel_rfl
@[simp] theorem t_by1 : bytesT Go.Proofs.Tryd.prog 1 = Option.some 8 := by kernel_rfl
@[simp] theorem t_ag1 : isAggT Go.Proofs.Tryd.prog 1 = Option.some Bool.false := by kernel_rfl
@[simp] theorem t_za1 : zeroA Go.Proofs.Tryd.prog 1 = Option.some AV.nilfunc := by kernel_rfl
@[simp] theorem t_sz2 : sizeT Go.Proofs.Tryd.prog 2 = Option.some 1 := by kernel_rfl
@[simp] theorem t_by2 : bytesT Go.Proofs.Tryd.prog 2 = Option.some 8 := by kernel_rfl
@[simp] theorem t_ag2 : isAggT Go.Proofs.Tryd.prog 2 = Option.some Bool.false := by kernel_rfl
@[simp] theorem t_za2 : zeroA Go.Proofs.Tryd.prog 2 = Option.some (AV.int IntKind.i64 (0)) := by kernel_rfl
@[simp] theorem t_sz3 : sizeT Go.Proofs.Tryd.prog 3 = Option.some 1 := by kernel_rfl
@[simp] theorem t_by3 : bytesT Go.Proofs.Tryd.prog 3 = Option.some 8 := by kernel_rfl
@[simp] theorem t_ag3 : isAggT Go.Proofs.Tryd.prog 3 = Option.some Bool.false := by kernel_rfl
@[simp] theorem t_za3 : zeroA Go.Proofs.Tryd.prog 3 = Option.some (AV.int IntKind.i64 (0)) := by kernel_rfl
@[simp] theorem t_sz4 : sizeT Go.Proofs.Tryd.prog 4 = Option.some 1 := by kernel_rfl
@[simp] theorem t_by4 : bytesT Go.Proofs.Tryd.prog 4 = Option.some 1 := by kernel_rfl
@[simp] theorem t_ag4 : isAggT Go.Proofs.Tryd.prog 4 = Option.some Bool.false := by kernel_rfl
@[simp] theorem t_za4 : zeroA Go.Proofs.Tryd.prog 4 = Option.some (AV.bool Bool.false) := by kernel_rfl
@[simp] theorem t_sz5 : sizeT Go.Proofs.Tryd.prog 5 = Option.some 1 := by kernel_rfl
@[simp] theorem t_by5 : bytesT Go.Proofs.Tryd.prog 5 = Option.some 1 := by kernel_rfl
@[simp] theorem t_ag5 : isAggT Go.Proofs.Tryd.prog 5 = Option.some Bool.false := by kernel_rfl
@[simp] theorem t_za5 : zeroA Go.Proofs.Tryd.prog 5 = Option.some (AV.int IntKind.u8 (0)) := by kernel_rfl
@[simp] theorem t_sz6 : sizeT Go.Proofs.Tryd.prog 6 = Option.some 1 := by kernel_rfl
@[simp] theorem t_by6 : bytesT Go.Proofs.Tryd.prog 6 = Option.some 1 := by kernel_rfl
@[simp] theorem t_ag6 : isAggT Go.Proofs.Tryd.prog 6 = Option.some Bool.false := by kernel_rfl
@[simp] theorem t_za6 : zeroA Go.Proofs.Tryd.prog 6 = Option.some (AV.int IntKind.u8 (0)) := by kernel_rfl
@[simp] theorem t_sz7 : sizeT Go.Proofs.Tryd.prog 7 = Option.some 4 := by kernel_rfl
@[simp] theorem t_by7 : bytesT Go.Proofs.Tryd.prog 7 = Option.some 24 := by kernel_rfl
@[simp] theorem t_ag7 : isAggT Go.Proofs.Tryd.prog 7 = Option.some Bool.true := by kernel_rfl
@[simp] theorem t_za7 : zeroA Go.Proofs.Tryd.prog 7 = Option.some (AV.agg [AV.int IntKind.i64 (0), AV.int IntKind.i64 (0), AV.bool Bool.false, AV.int IntKind.u8 (0)]) := by kernel_rfl
@[simp] theorem t_sz8 : sizeT Go.Proofs.Tryd.prog 8 = Option.some 4 := by kernel_rfl
@[simp] theorem t_by8 : bytesT Go.Proofs.Tryd.prog 8 = Option.some 24 := by kernel_rfl
@[simp] theorem t_ag8 : isAggT Go.Proofs.Tryd.prog 8 = Option.some Bool.true := by kernel_rfl
@[simp] theorem t_za8 : zeroA Go.Proofs.Tryd.prog 8 = Option.some (AV.agg [AV.int IntKind.i64 (0), AV.int IntKind.i64 (0), AV.bool Bool.false, AV.int IntKind.u8 (0)]) := by kernel_rfl
@[simp] theorem t_sz9 : sizeT Go.Proofs.Tryd.prog 9 = Option.some 1 := by kernel_rfl
@[simp] theorem t_by9 : bytesT Go.Proofs.Tryd.prog 9 = Option.some 16 := by kernel_rfl
@[simp] theorem t_ag9 : isAggT Go.Proofs.Tryd.prog 9 = Option.some Bool.false := by kernel_rfl
@[simp] theorem t_za9 : zeroA Go.Proofs.Tryd.prog 9 = Option.some (AV.str []) := by kernel_rfl
@[simp] theorem t_sz10 : sizeT Go.Proofs.Tryd.prog 10 = Option.some 1 := by kernel_rfl
@[simp] theorem t_by10 : bytesT Go.Proofs.Tryd.prog 10 = Option.some 16 := by kernel_rfl
@[simp] theorem t_ag10 : isAggT Go.Proofs.Tryd.prog 10 = Option.some Bool.false := by kernel_rfl
@[simp] theorem t_za10 : zeroA Go.Proofs.Tryd.prog 10 = Option.some (AV.str []) := by kernel_rfl
@[simp] theorem t_sz11 : sizeT Go.Proofs.Tryd.prog 11 = Option.some 1 := by kernel_rfl
@[simp] theorem t_by11 : bytesT Go.Proofs.Tryd.prog 11 = Option.some 16 := by kernel_rfl
@[simp] theorem t_ag11 : isAggT Go.Proofs.Tryd.prog 11 = Option.some Bool.false := by kernel_rfl
@[simp] theorem t_za11 : zeroA Go.Proofs.Tryd.prog 11 = Option.some (AV.str []) := by kernel_rfl
@[simp] theorem t_sz12 : sizeT Go.Proofs.Tryd.prog 12 = Option.some 1 := by kernel_rfl
@[simp] theorem t_by12 : bytesT Go.Proofs.Tryd.prog 12 = Option.some 8 := by kernel_rfl
@[simp] theorem t_ag12 : isAggT Go.Proofs.Tryd.prog 12 = Option.some Bool.false := by kernel_rfl
@[simp] theorem t_za12 : zeroA Go.Proofs.Tryd.prog 12 = Option.some (AV.int IntKind.u64 (0)) := by kernel_rfl
@[simp] theorem t_sz13 : sizeT Go.Proofs.Tryd.prog 13 = Option.some 2 := by kernel_rfl
@[simp] theorem t_by13 : bytesT Go.Proofs.Tryd.prog 13 = Option.some 24 := by kernel_rfl
@[simp] theorem t_ag13 : isAggT Go.Proofs.Tryd.prog 13 = Option.some Bool.true := by kernel_rfl
@[simp] theorem t_za13 : zeroA Go.Proofs.Tryd.prog 13 = Option.some (AV.agg [AV.str [], AV.int IntKind.u64 (0)]) := by kernel_rfl
@[simp] theorem t_sz14 : sizeT Go.Proofs.Tryd.prog 14 = Option.some 2 := by kernel_rfl
@[simp] theorem t_by14 : bytesT Go.Proofs.Tryd.prog 14 = Option.some 24 := by kernel_rfl
@[simp] theorem t_ag14 : isAggT Go.Proofs.Tryd.prog 14 = Option.some Bool.true := by kernel_rfl
@[simp] theorem t_za14 : zeroA Go.Proofs.Tryd.prog 14 = Option.some (AV.agg [AV.str [], AV.int IntKind.u64 (0)]) := by kernel_rfl
@[simp] theorem t_sz15 : sizeT Go.Proofs.Tryd.prog 15 = Option.some 1 := by kernel_rfl
@[simp] theorem t_by15 : bytesT Go.Proofs.Tryd.prog 15 = Option.some 8 := by kernel_rfl
@[simp] theorem t_ag15 : isAggT Go.Proofs.Tryd.prog 15 = Option.some Bool.false := by kernel_rfl
@[simp] theorem t_za15 : zeroA Go.Proofs.Tryd.prog 15 = Option.some AV.nilptr := by kernel_rfl
@[simp] theorem t_sz16 : sizeT Go.Proofs.Tryd.prog 16 = Option.some 1 := by kernel_rfl
@[simp] theorem t_by16 : bytesT Go.Proofs.Tryd.prog 16 = Option.some 8 := by kernel_rfl
@[simp] theorem t_ag16 : isAggT Go.Proofs.Tryd.prog 16 = Option.some Bool.false := by kernel_rfl
@[simp] theorem t_za16 : zeroA Go.Proofs.Tryd.prog 16 = Option.some AV.nilptr := by kernel_rfl
@[simp] theorem t_sz17 : sizeT Go.Proofs.Tryd.prog 17 = Option.some 1 := by kernel_rfl
@[simp] theorem t_by17 : bytesT Go.Proofs.Tryd.prog 17 = Option.some 8 := by kernel_rfl
@[simp] theorem t_ag17 : isAggT Go.Proofs.Tryd.prog 17 = Option.some Bool.false := by kernel_rfl
@[simp] theorem t_za17 : zeroA Go.Proofs.Tryd.prog 17 = Option.some AV.nilptr := by kernel_rfl
@[simp] theorem t_sz18 : sizeT Go.Proofs.Tryd.prog 18 = Option.some 1 := by kernel_rfl
@[simp] theorem t_by18 : bytesT Go.Proofs.Tryd.prog 18 = Option.some 8 := by kernel_rfl
@[simp] theorem t_ag18 : isAggT Go.Proofs.Tryd.prog 18 = Option.some Bool.true := by kernel_rfl
@[simp] theorem t_za18 : zeroA Go.Proofs.Tryd.prog 18 = Option.some (AV.agg [AV.nilptr]) := by kernel_rfl
@[simp] theorem t_sz19 : sizeT Go.Proofs.Tryd.prog 19 = Option.some 1 := by kernel_rfl
@[simp] theorem t_by19 : bytesT Go.Proofs.Tryd.prog 19 = Option.some 8 := by kernel_rfl
@[simp] theorem t_ag19 : isAggT Go.Proofs.Tryd.prog 19 = Option.some Bool.true := by kernel_rfl
@[simp] theorem t_za19 : zeroA Go.Proofs.Tryd.prog 19 = Option.some (AV.agg [AV.nilptr]) := by kernel_rfl
@[simp] theorem t_sz20 : sizeT Go.Proofs.Tryd.prog 20 = Option.some 1 := by kernel_rfl
@[simp] theorem t_by20 : bytesT Go.Proofs.Tryd.prog 20 = Option.some 16 := by kernel_rfl
@[simp] theorem t_ag20 : isAggT Go.Proofs.Tryd.prog 20 = Option.some Bool.false := by kernel_rfl
@[simp] theorem t_za20 : zeroA Go.Proofs.Tryd.prog 20 = Option.some AV.niliface := by kernel_rfl
@[simp] theorem t_sz21 : sizeT Go.Proofs.Tryd.prog 21 = Option.some 1 := by kernel_rfl
@[simp] theorem t_by21 : bytesT Go.Proofs.Tryd.prog 21 = Option.some 4 := by kernel_rfl
@[simp] theorem t_ag21 : isAggT Go.Proofs.Tryd.prog 21 = Option.some Bool.false := by kernel_rfl
@[simp] theorem t_za21 : zeroA Go.Proofs.Tryd.prog 21 = Option.some (AV.int IntKind.i32 (0)) := by kernel_rfl
@[simp] theorem t_sz22 : sizeT Go.Proofs.Tryd.prog 22 = Option.some 3 := by kernel_rfl
@[simp] theorem t_by22 : bytesT Go.Proofs.Tryd.prog 22 = Option.some 24 := by kernel_rfl
@[simp] theorem t_ag22 : isAggT Go.Proofs.Tryd.prog 22 = Option.some Bool.true := by kernel_rfl
@[simp] theorem t_za22 : zeroA Go.Proofs.Tryd.prog 22 = Option.some (AV.agg [AV.int IntKind.i64 (0), AV.int IntKind.i64 (0), AV.int IntKind.i64 (0)]) := by kernel_rfl
@[simp] theorem t_sz23 : sizeT Go.Proofs.Tryd.prog 23 = Option.some 3 := by kernel_rfl
@[simp] theorem t_by23 : bytesT Go.Proofs.Tryd.prog 23 = Option.some 24 := by kernel_rfl
@[simp] theorem t_ag23 : isAggT Go.Proofs.Tryd.prog 23 = Option.some Bool.true := by kernel_rfl
@[simp] theorem t_za23 : zeroA Go.Proofs.Tryd.prog 23 = Option.some (AV.agg [AV.int IntKind.i64 (0), AV.int IntKind.i64 (0), AV.int IntKind.i64 (0)]) := by kernel_rfl
@[simp] theorem t_sz24 : sizeT Go.Proofs.Tryd.prog 24 = Option.some 1 := by kernel_rfl
@[simp] theorem t_by24 : bytesT Go.Proofs.Tryd.prog 24 = Option.some 24 := by kernel_rfl
@[simp] theorem t_ag24 : isAggT Go.Proofs.Tryd.prog 24 = Option.some Bool.false := by kernel_rfl
@[simp] theorem t_za24 : zeroA Go.Proofs.Tryd.prog 24 = Option.some (AV.list [] Tok.full) := by kernel_rfl
@[simp] theorem t_sz25 : sizeT Go.Proofs.Tryd.prog 25 = Option.some 1 := by kernel_rfl
@[simp] theorem t_by25 : bytesT Go.Proofs.Tryd.prog 25 = Option.some 8 := by kernel_rfl
@[simp] theorem t_ag25 : isAggT Go.Proofs.Tryd.prog 25 = Option.some Bool.false := by kernel_rfl
@[simp] theorem t_za25 : zeroA Go.Proofs.Tryd.prog 25 = Option.some AV.nilfunc := by kernel_rfl
@[simp] theorem t_sz26 : sizeT Go.Proofs.Tryd.prog 26 = Option.some 1 := by kernel_rfl
@[simp] theorem t_by26 : bytesT Go.Proofs.Tryd.prog 26 = Option.some 8 := by kernel_rfl
@[simp] theorem t_ag26 : isAggT Go.Proofs.Tryd.prog 26 = Option.some Bool.false := by kernel_rfl
@[simp] theorem t_za26 : zeroA Go.Proofs.Tryd.prog 26 = Option.some AV.nilfunc := by kernel_rfl
@[simp] theorem t_sz27 : sizeT Go.Proofs.Tryd.prog 27 = Option.some 1 := by kernel_rfl
@[simp] theorem t_by27 : bytesT Go.Proofs.Tryd.prog 27 = Option.some 8 := by kernel_rfl
@[simp] theorem t_ag27 : isAggT Go.Proofs.Tryd.prog 27 = Option.some Bool.false := by kernel_rfl
@[simp] theorem t_za27 : zeroA Go.Proofs.Tryd.prog 27 = Option.some AV.nilfunc := by kernel_rfl
@[simp] theorem t_sz28 : sizeT Go.Proofs.Tryd.prog 28 = Option.some 1 := by kernel_rfl
@[simp] theorem t_by28 : bytesT Go.Proofs.Tryd.prog 28 = Option.some 8 := by kernel_rfl
@[simp] theorem t_ag28 : isAggT Go.Proofs.Tryd.prog 28 = Option.some Bool.false := by kernel_rfl
@[simp] theorem t_za28 : zeroA Go.Proofs.Tryd.prog 28 = Option.some AV.nilfunc := by kernel_rfl
@[simp] theorem t_sz29 : sizeT Go.Proofs.Tryd.prog 29 = Option.some 1 := by kernel_rfl
@[simp] theorem t_by29 : bytesT Go.Proofs.Tryd.prog 29 = Option.some 8 := by kernel_rfl
@[simp] theorem t_ag29 : isAggT Go.Proofs.Tryd.prog 29 = Option.some Bool.false := by kernel_rfl
@[simp] theorem t_za29 : zeroA Go.Proofs.Tryd.prog 29 = Option.some AV.nilfunc := by kernel_rfl
@[simp] theorem t_sz30 : sizeT Go.Proofs.Tryd.prog 30 = Option.some 1 := by kernel_rfl
@[simp] theorem t_by30 : bytesT Go.Proofs.Tryd.prog 30 = Option.some 8 := by kernel_rfl
@[simp] theorem t_ag30 : isAggT Go.Proofs.Tryd.prog 30 = Option.some Bool.false := by kernel_rfl
@[simp] theorem t_za30 : zeroA Go.Proofs.Tryd.prog 30 = Option.some AV.nilfunc := by kernel_rfl
@[simp] theorem t_sz31 : sizeT Go.Proofs.Tryd.prog 31 = Option.some 1 := by kernel_rfl
@[simp] theorem t_by31 : bytesT Go.Proofs.Tryd.prog 31 = Option.some 8 := by kernel_rfl
@[simp] theorem t_ag31 : isAggT Go.Proofs.Tryd.prog 31 = Option.some Bool.false := by kernel_rfl
@[simp] theorem t_za31 : zeroA Go.Proofs.Tryd.prog 31 = Option.some AV.nilfunc := by kernel_rfl
@[simp] theorem t_sz32 : sizeT Go.Proofs.Tryd.prog 32 = Option.some 1 := by kernel_rfl
@[simp] theorem t_by32 : bytesT Go.Proofs.Tryd.prog 32 = Option.some 8 := by kernel_rfl
@[simp] theorem t_ag32 : isAggT Go.Proofs.Tryd.prog 32 = Option.some Bool.false := by kernel_rfl
@[simp] theorem t_za32 : zeroA Go.Proofs.Tryd.prog 32 = Option.some AV.nilfunc := by kernel_rfl
@[simp] theorem t_sz33 : sizeT Go.Proofs.Tryd.prog 33 = Option.some 1 := by kernel_rfl
@[simp] theorem t_by33 : bytesT Go.Proofs.Tryd.prog 33 = Option.some 8 := by kernel_rfl
@[simp] theorem t_ag33 : isAggT Go.Proofs.Tryd.prog 33 = Option.some Bool.false := by kernel_rfl
@[simp] theorem t_za33 : zeroA Go.Proofs.Tryd.prog 33 = Option.some AV.nilfunc := by kernel_rfl
@[simp] theorem t_sz34 : sizeT Go.Proofs.Tryd.prog 34 = Option.some 1 := by kernel_rfl
@[simp] theorem t_by34 : bytesT Go.Proofs.Tryd.prog 34 = Option.some 8 := by kernel_rfl
@[simp] theorem t_ag34 : isAggT Go.Proofs.Tryd.prog 34 = Option.some Bool.false := by kernel_rfl
@[simp] theorem t_za34 : zeroA Go.Proofs.Tryd.prog 34 = Option.some AV.nilfunc := by kernel_rfl
@[simp] theorem t_sz35 : sizeT Go.Proofs.Tryd.prog 35 = Option.some 1 := by kernel_rfl
@[simp] theorem t_by35 : bytesT Go.Proofs.Tryd.prog 35 = Option.some 8 := by kernel_rfl
@[simp] theorem t_ag35 : isAggT Go.Proofs.Tryd.prog 35 = Option.some Bool.false := by kernel_rfl
@[simp] theorem t_za35 : zeroA Go.Proofs.Tryd.prog 35 = Option.some AV.nilfunc := by kernel_rfl
@[simp] theorem t_sz36 : sizeT Go.Proofs.Tryd.prog 36 = Option.some 1 := by kernel_rfl
@[simp] theorem t_by36 : bytesT Go.Proofs.Tryd.prog 36 = Option.some 8 := by kernel_rfl
@[simp] theorem t_ag36 : isAggT Go.Proofs.Tryd.prog 36 = Option.some Bool.false := by kernel_rfl
@[simp] theorem t_za36 : zeroA Go.Proofs.Tryd.prog 36 = Option.some AV.nilfunc := by kernel_rfl
@[simp] theorem t_sz37 : sizeT Go.Proofs.Tryd.prog 37 = Option.some 1 := by kernel_rfl
@[simp] theorem t_by37 : bytesT Go.Proofs.Tryd.prog 37 = Option.some 8 := by kernel_rfl
@[simp] theorem t_ag37 : isAggT Go.Proofs.Tryd.prog 37 = Option.some Bool.false := by kernel_rfl
@[simp] theorem t_za37 : zeroA Go.Proofs.Tryd.prog 37 = Option.some AV.nilfunc := by kernel_rfl
@[simp] theorem t_sz38 : sizeT Go.Proofs.Tryd.prog 38 = Option.some 1 := by kernel_rfl
@[simp] theorem t_by38 : bytesT Go.Proofs.Tryd.prog 38 = Option.some 8 := by kernel_rfl
@[simp] theorem t_ag38 : isAggT Go.Proofs.Tryd.prog 38 = Option.some Bool.false := by kernel_rfl
@[simp] theorem t_za38 : zeroA Go.Proofs.Tryd.prog 38 = Option.some AV.nilfunc := by kernel_rfl
@[simp] theorem t_sz39 : sizeT Go.Proofs.Tryd.prog 39 = Option.some 1 := by kernel_rfl
@[simp] theorem t_by39 : bytesT Go.Proofs.Tryd.prog 39 = Option.some 8 := by kernel_rfl
@[simp] theorem t_ag39 : isAggT Go.Proofs.Tryd.prog 39 = Option.some Bool.false := by kernel_rfl
@[simp] theorem t_za39 : zeroA Go.Proofs.Tryd.prog 39 = Option.some AV.nilfunc := by kernel_rfl
@[simp] theorem t_sz40 : sizeT Go.Proofs.Tryd.prog 40 = Option.some 1 := by kernel_rfl
@[simp] theorem t_by40 : bytesT Go.Proofs.Tryd.prog 40 = Option.some 8 := by kernel_rfl
@[simp] theorem t_ag40 : isAggT Go.Proofs.Tryd.prog 40 = Option.some Bool.false := by kernel_rfl
@[simp] theorem t_za40 : zeroA Go.Proofs.Tryd.prog 40 = Option.some AV.nilmap := by kernel_rfl
@[simp] theorem t_sz41 : sizeT Go.Proofs.Tryd.prog 41 = Option.some 1 := by kernel_rfl
@[simp] theorem t_by41 : bytesT Go.Proofs.Tryd.prog 41 = Option.some 8 := by kernel_rfl
@[simp] theorem t_ag41 : isAggT Go.Proofs.Tryd.prog 41 = Option.some Bool.false := by kernel_rfl
@[simp] theorem t_za41 : zeroA Go.Proofs.Tryd.prog 41 = Option.some AV.nilmap := by kernel_rfl
@[simp] theorem t_sz42 : sizeT Go.Proofs.Tryd.prog 42 = Option.some 1 := by kernel_rfl
@[simp] theorem t_by42 : bytesT Go.Proofs.Tryd.prog 42 = Option.some 8 := by kernel_rfl
@[simp] theorem t_ag42 : isAggT Go.Proofs.Tryd.prog 42 = Option.some Bool.false := by kernel_rfl
@[simp] theorem t_za42 : zeroA Go.Proofs.Tryd.prog 42 = Option.some AV.nilfunc := by kernel_rfl
@[simp] theorem t_sz43 : sizeT Go.Proofs.Tryd.prog 43 = Option.some 1 := by kernel_rfl
@[simp] theorem t_by43 : bytesT Go.Proofs.Tryd.prog 43 = Option.some 8 := by kernel_rfl
@[simp] theorem t_ag43 : isAggT Go.Proofs.Tryd.prog 43 = Option.some Bool.false := by kernel_rfl
@[simp] theorem t_za43 : zeroA Go.Proofs.Tryd.prog 43 = Option.some AV.nilfunc := by kernel_rfl
@[simp] theorem t_sz44 : sizeT Go.Proofs.Tryd.prog 44 = Option.some 1 := by kernel_rfl
@[simp] theorem t_by44 : bytesT Go.Proofs.Tryd.prog 44 = Option.some 8 := by kernel_rfl
@[simp] theorem t_ag44 : isAggT Go.Proofs.Tryd.prog 44 = Option.some Bool.false := by kernel_rfl
@[simp] theorem t_za44 : zeroA Go.Proofs.Tryd.prog 44 = Option.some AV.nilfunc := by kernel_rfl
@[simp] theorem t_sz45 : sizeT Go.Proofs.Tryd.prog 45 = Option.some 1 := by kernel_rfl
@[simp] theorem t_by45 : bytesT Go.Proofs.Tryd.prog 45 = Option.some 8 := by kernel_rfl
@[simp] theorem t_ag45 : isAggT Go.Proofs.Tryd.prog 45 = Option.some Bool.false := by kernel_rfl
@[simp] theorem t_za45 : zeroA Go.Proofs.Tryd.prog 45 = Option.some AV.nilfunc := by kernel_rfl
@[simp] theorem t_sz46 : sizeT Go.Proofs.Tryd.prog 46 = Option.some 1 := by kernel_rfl
@[simp] theorem t_by46 : bytesT Go.Proofs.Tryd.prog 46 = Option.some 8 := by kernel_rfl
@[simp] theorem t_ag46 : isAggT Go.Proofs.Tryd.prog 46 = Option.some Bool.false := by kernel_rfl
@[simp] theorem t_za46 : zeroA Go.Proofs.Tryd.prog 46 = Option.some AV.nilfunc := by kernel_rfl
@[simp] theorem t_sz47 : sizeT Go.Proofs.Tryd.prog 47 = Option.some 1 := by kernel_rfl
@[simp] theorem t_by47 : bytesT Go.Proofs.Tryd.prog 47 = Option.some 8 := by kernel_rfl
@[simp] theorem t_ag47 : isAggT Go.Proofs.Tryd.prog 47 = Option.some Bool.false := by kernel_rfl
@[simp] theorem t_za47 : zeroA Go.Proofs.Tryd.prog 47 = Option.some AV.nilfunc := by kernel_rfl
@[simp] theorem t_sz48 : sizeT Go.Proofs.Tryd.prog 48 = Option.some 1 := by kernel_rfl
@[simp] theorem t_by48 : bytesT Go.Proofs.Tryd.prog 48 = Option.some 24 := by kernel_rfl
@[simp] theorem t_ag48 : isAggT Go.Proofs.Tryd.prog 48 = Option.some Bool.false := by kernel_rfl
@[simp] theorem t_za48 : zeroA Go.Proofs.Tryd.prog 48 = Option.some (AV.list [] Tok.full) := by kernel_rfl
@[simp] theorem t_sz49 : sizeT Go.Proofs.Tryd.prog 49 = Option.some 1 := by kernel_rfl
@[simp] theorem t_by49 : bytesT Go.Proofs.Tryd.prog 49 = Option.some 8 := by kernel_rfl
@[simp] theorem t_ag49 : isAggT Go.Proofs.Tryd.prog 49 = Option.some Bool.false := by kernel_rfl
@[simp] theorem t_za49 : zeroA Go.Proofs.Tryd.prog 49 = Option.some AV.nilfunc := by kernel_rfl
@[simp] theorem t_sz50 : sizeT Go.Proofs.Tryd.prog 50 = Option.some 1 := by kernel_rfl
@[simp] theorem t_by50 : bytesT Go.Proofs.Tryd.prog 50 = Option.some 24 := by kernel_rfl
@[simp] theorem t_ag50 : isAggT Go.Proofs.Tryd.prog 50 = Option.some Bool.false := by kernel_rfl
@[simp] theorem t_za50 : zeroA Go.Proofs.Tryd.prog 50 = Option.some (AV.list [] Tok.full) := by kernel_rfl
@[simp] theorem t_sz51 : sizeT Go.Proofs.Tryd.prog 51 = Option.some 1 := by kernel_rfl
@[simp] theorem t_by51 : bytesT Go.Proofs.Tryd.prog 51 = Option.some 8 := by kernel_rfl
@[simp] theorem t_ag51 : isAggT Go.Proofs.Tryd.prog 51 = Option.some Bool.false := by kernel_rfl
@[simp] theorem t_za51 : zeroA Go.Proofs.Tryd.prog 51 = Option.some AV.nilfunc := by kernel_rfl
@[simp] theorem t_sz52 : sizeT Go.Proofs.Tryd.prog 52 = Option.some 1 := by kernel_rfl
@[simp] theorem t_by52 : bytesT Go.Proofs.Tryd.prog 52 = Option.some 8 := by kernel_rfl
@[simp] theorem t_ag52 : isAggT Go.Proofs.Tryd.prog 52 = Option.some Bool.false := by kernel_rfl
@[simp] theorem t_za52 : zeroA Go.Proofs.Tryd.prog 52 = Option.some AV.nilfunc := by kernel_rfl
@[simp] theorem t_sz53 : sizeT Go.Proofs.Tryd.prog 53 = Option.some 1 := by kernel_rfl
@[simp] theorem t_by53 : bytesT Go.Proofs.Tryd.prog 53 = Option.some 8 := by kernel_rfl
@[simp] theorem t_ag53 : isAggT Go.Proofs.Tryd.prog 53 = Option.some Bool.false := by kernel_rfl
@[simp] theorem t_za53 : zeroA Go.Proofs.Tryd.prog 53 = Option.some AV.nilfunc := by kernel_rfl
@[simp] theorem t_sz54 : sizeT Go.Proofs.Tryd.prog 54 = Option.some 1 := by kernel_rfl
@[simp] theorem t_by54 : bytesT Go.Proofs.Tryd.prog 54 = Option.some 8 := by kernel_rfl
@[simp] theorem t_ag54 : isAggT Go.Proofs.Tryd.prog 54 = Option.some Bool.false := by kernel_rfl
@[simp] theorem t_za54 : zeroA Go.Proofs.Tryd.prog 54 = Option.some AV.nilfunc := by kernel_rfl
@[simp] theorem t_sz55 : sizeT Go.Proofs.Tryd.prog 55 = Option.some 1 := by kernel_rfl
@[simp] theorem t_by55 : bytesT Go.Proofs.Tryd.prog 55 = Option.some 0 := by kernel_rfl
@[simp] theorem t_ag55 : isAggT Go.Proofs.Tryd.prog 55 = Option.some Bool.false := by kernel_rfl
@[simp] theorem t_za55 : zeroA Go.Proofs.Tryd.prog 55 = Option.some (AV.tuple [AV.bool Bool.false, AV.bool Bool.false]) := by kernel_rfl
@[simp] theorem t_sz56 : sizeT Go.Proofs.Tryd.prog 56 = Option.some 1 := by kernel_rfl
@[simp] theorem t_by56 : bytesT Go.Proofs.Tryd.prog 56 = Option.some 24 := by kernel_rfl
@[simp] theorem t_ag56 : isAggT Go.Proofs.Tryd.prog 56 = Option.some Bool.false := by kernel_rfl
@[simp] theorem t_za56 : zeroA Go.Proofs.Tryd.prog 56 = Option.some (AV.list [] Tok.full) := by kernel_rfl
@[simp] theorem t_sz57 : sizeT Go.Proofs.Tryd.prog 57 = Option.some 1 := by kernel_rfl
@[simp] theorem t_by57 : bytesT Go.Proofs.Tryd.prog 57 = Option.some 8 := by kernel_rfl
@[simp] theorem t_ag57 : isAggT Go.Proofs.Tryd.prog 57 = Option.some Bool.false := by kernel_rfl
@[simp] theorem t_za57 : zeroA Go.Proofs.Tryd.prog 57 = Option.some AV.nilfunc := by kernel_rfl
@[simp] theorem t_sz58 : sizeT Go.Proofs.Tryd.prog 58 = Option.some 1 := by kernel_rfl
@[simp] theorem t_by58 : bytesT Go.Proofs.Tryd.prog 58 = Option.some 8 := by kernel_rfl
@[simp] theorem t_ag58 : isAggT Go.Proofs.Tryd.prog 58 = Option.some Bool.false := by kernel_rfl
@[simp] theorem t_za58 : zeroA Go.Proofs.Tryd.prog 58 = Option.some AV.nilfunc := by kernel_rfl
@[simp] theorem t_sz59 : sizeT Go.Proofs.Tryd.prog 59 = Option.some 1 := by kernel_rfl
@[simp] theorem t_by59 : bytesT Go.Proofs.Tryd.prog 59 = Option.some 8 := by kernel_rfl
@[simp] theorem t_ag59 : isAggT Go.Proofs.Tryd.prog 59 = Option.some Bool.false := by kernel_rfl
@[simp] theorem t_za59 : zeroA Go.Proofs.Tryd.prog 59 = Option.some AV.nilfunc := by kernel_rfl
@[simp] theorem t_sz60 : sizeT Go.Proofs.Tryd.prog 60 = Option.some 1 := by kernel_rfl
@[simp] theorem t_by60 : bytesT Go.Proofs.Tryd.prog 60 = Option.some 8 := by kernel_rfl
@[simp] theorem t_ag60 : isAggT Go.Proofs.Tryd.prog 60 = Option.some Bool.false := by kernel_rfl
@[simp] theorem t_za60 : zeroA Go.Proofs.Tryd.prog 60 = Option.some AV.nilfunc := by kernel_rfl
@[simp] theorem t_sz61 : sizeT Go.Proofs.Tryd.prog 61 = Option.some 24 := by kernel_rfl
@[simp] theorem t_by61 : bytesT Go.Proofs.Tryd.prog 61 = Option.some 24 := by kernel_rfl
@[simp] theorem t_ag61 : isAggT Go.Proofs.Tryd.prog 61 = Option.some Bool.true := by kernel_rfl
@[simp] theorem t_za61 : zeroA Go.Proofs.Tryd.prog 61 = Option.some (AV.agg [AV.int IntKind.u8 (0), AV.int IntKind.u8 (0), AV.int IntKind.u8 (0), AV.int IntKind.u8 (0), AV.int IntKind.u8 (0), AV.int IntKind.u8 (0), AV.int IntKind.u8 (0), AV.int IntKind.u8 (0), AV.int IntKind.u8 (0), AV.int IntKind.u8 (0), AV.int IntKind.u8 (0), AV.int IntKind.u8 (0), AV.int IntKind.u8 (0), AV.int IntKind.u8 (0), AV.int IntKind.u8 (0), AV.int IntKind.u8 (0), AV.int IntKind.u8 (0), AV.int IntKind.u8 (0), AV.int IntKind.u8 (0), AV.int IntKind.u8 (0), AV.int IntKind.u8 (0), AV.int IntKind.u8 (0), AV.int IntKind.u8 (0), AV.int IntKind.u8 (0)]) := by kernel_rfl
@[simp] theorem t_sz62 : sizeT Go.Proofs.Tryd.prog 62 = Option.some 1 := by kernel_rfl
@[simp] theorem t_by62 : bytesT Go.Proofs.Tryd.prog 62 = Option.some 8 := by kernel_rfl
@[simp] theorem t_ag62 : isAggT Go.Proofs.Tryd.prog 62 = Option.some Bool.false := by kernel_rfl
@[simp] theorem t_za62 : zeroA Go.Proofs.Tryd.prog 62 = Option.some (AV.int IntKind.u64 (0)) := by kernel_rfl
@[simp] theorem t_sz63 : sizeT Go.Proofs.Tryd.prog 63 = Option.some 1 := by kernel_rfl
@[simp] theorem t_by63 : bytesT Go.Proofs.Tryd.prog 63 = Option.some 8 := by kernel_rfl
@[simp] theorem t_ag63 : isAggT Go.Proofs.Tryd.prog 63 = Option.some Bool.false := by kernel_rfl
@[simp] theorem t_za63 : zeroA Go.Proofs.Tryd.prog 63 = Option.some AV.nilfunc := by kernel_rfl
@[simp] theorem t_sz64 : sizeT Go.Proofs.Tryd.prog 64 = Option.some 1 := by kernel_rfl
@[simp] theorem t_by64 : bytesT Go.Proofs.Tryd.prog 64 = Option.some 8 := by kernel_rfl
@[simp] theorem t_ag64 : isAggT Go.Proofs.Tryd.prog 64 = Option.some Bool.false := by kernel_rfl
@[simp] theorem t_za64 : zeroA Go.Proofs.Tryd.prog 64 = Option.some AV.nilfunc := by kernel_rfl
@[simp] theorem t_sz65 : sizeT Go.Proofs.Tryd.prog 65 = Option.some 1 := by kernel_rfl
@[simp] theorem t_by65 : bytesT Go.Proofs.Tryd.prog 65 = Option.some 0 := by kernel_rfl
@[simp] theorem t_ag65 : isAggT Go.Proofs.Tryd.prog 65 = Option.some Bool.false := by kernel_rfl
@[simp] theorem t_za65 : zeroA Go.Proofs.Tryd.prog 65 = Option.some (AV.tuple [AV.list [] Tok.full, AV.str []]) := by kernel_rfl
@[simp] theorem t_sz66 : sizeT Go.Proofs.Tryd.prog 66 = Option.some 1 := by kernel_rfl
@[simp] theorem t_by66 : bytesT Go.Proofs.Tryd.prog 66 = Option.some 8 := by kernel_rfl
@[simp] theorem t_ag66 : isAggT Go.Proofs.Tryd.prog 66 = Option.some Bool.false := by kernel_rfl
@[simp] theorem t_za66 : zeroA Go.Proofs.Tryd.prog 66 = Option.some AV.nilfunc := by kernel_rfl
@[simp] theorem t_sz67 : sizeT Go.Proofs.Tryd.prog 67 = Option.some 1 := by kernel_rfl
@[simp] theorem t_by67 : bytesT Go.Proofs.Tryd.prog 67 = Option.some 8 := by kernel_rfl
@[simp] theorem t_ag67 : isAggT Go.Proofs.Tryd.prog 67 = Option.some Bool.false := by kernel_rfl
@[simp] theorem t_za67 : zeroA Go.Proofs.Tryd.prog 67 = Option.some AV.nilfunc := by kernel_rfl
@[simp] theorem t_sz68 : sizeT Go.Proofs.Tryd.prog 68 = Option.some 1 := by kernel_rfl
@[simp] theorem t_by68 : bytesT Go.Proofs.Tryd.prog 68 = Option.some 8 := by kernel_rfl
@[simp] theorem t_ag68 : isAggT Go.Proofs.Tryd.prog 68 = Option.some Bool.false := by kernel_rfl
@[simp] theorem t_za68 : zeroA Go.Proofs.Tryd.prog 68 = Option.some AV.nilfunc := by kernel_rfl
@[simp] theorem t_sz69 : sizeT Go.Proofs.Tryd.prog 69 = Option.some 1 := by kernel_rfl
@[simp] theorem t_by69 : bytesT Go.Proofs.Tryd.prog 69 = Option.some 8 := by kernel_rfl
@[simp] theorem t_ag69 : isAggT Go.Proofs.Tryd.prog 69 = Option.some Bool.false := by kernel_rfl
@[simp] theorem t_za69 : zeroA Go.Proofs.Tryd.prog 69 = Option.some AV.nilfunc := by kernel_rfl
@[simp] theorem t_sz70 : sizeT Go.Proofs.Tryd.prog 70 = Option.some 1 := by kernel_rfl
@[simp] theorem t_by70 : bytesT Go.Proofs.Tryd.prog 70 = Option.some 8 := by kernel_rfl
@[simp] theorem t_ag70 : isAggT Go.Proofs.Tryd.prog 70 = Option.some Bool.false := by kernel_rfl
@[simp] theorem t_za70 : zeroA Go.Proofs.Tryd.prog 70 = Option.some (AV.int IntKind.u64 (0)) := by kernel_rfl
@[simp] theorem t_sz71 : sizeT Go.Proofs.Tryd.prog 71 = Option.some 1 := by kernel_rfl
@[simp] theorem t_by71 : bytesT Go.Proofs.Tryd.prog 71 = Option.some 8 := by kernel_rfl
@[simp] theorem t_ag71 : isAggT Go.Proofs.Tryd.prog 71 = Option.some Bool.false := by kernel_rfl
@[simp] theorem t_za71 : zeroA Go.Proofs.Tryd.prog 71 = Option.some AV.nilfunc := by kernel_rfl
@[simp] theorem t_sz72 : sizeT Go.Proofs.Tryd.prog 72 = Option.some 1 := by kernel_rfl
@[simp] theorem t_by72 : bytesT Go.Proofs.Tryd.prog 72 = Option.some 8 := by kernel_rfl
@[simp] theorem t_ag72 : isAggT Go.Proofs.Tryd.prog 72 = Option.some Bool.false := by kernel_rfl
@[simp] theorem t_za72 : zeroA Go.Proofs.Tryd.prog 72 = Option.some AV.nilfunc := by kernel_rfl
@[simp] theorem t_sz73 : sizeT Go.Proofs.Tryd.prog 73 = Option.some 20 := by kernel_rfl
@[simp] theorem t_by73 : bytesT Go.Proofs.Tryd.prog 73 = Option.some 160 := by kernel_rfl
@[simp] theorem t_ag73 : isAggT Go.Proofs.Tryd.prog 73 = Option.some Bool.true := by kernel_rfl
@[simp] theorem t_za73 : zeroA Go.Proofs.Tryd.prog 73 = Option.some (AV.agg [AV.int IntKind.u64 (0), AV.int IntKind.u64 (0), AV.int IntKind.u64 (0), AV.int IntKind.u64 (0), AV.int IntKind.u64 (0), AV.int IntKind.u64 (0), AV.int IntKind.u64 (0), AV.int IntKind.u64 (0), AV.int IntKind.u64 (0), AV.int IntKind.u64 (0), AV.int IntKind.u64 (0), AV.int IntKind.u64 (0), AV.int IntKind.u64 (0), AV.int IntKind.u64 (0), AV.int IntKind.u64 (0), AV.int IntKind.u64 (0), AV.int IntKind.u64 (0), AV.int IntKind.u64 (0), AV.int IntKind.u64 (0), AV.int IntKind.u64 (0)]) := by kernel_rfl
@[simp] theorem t_sz74 : sizeT Go.Proofs.Tryd.prog 74 = Option.some 1 := by kernel_rfl
@[simp] theorem t_by74 : bytesT Go.Proofs.Tryd.prog 74 = Option.some 4 := by kernel_rfl
@[simp] theorem t_ag74 : isAggT Go.Proofs.Tryd.prog 74 = Option.some Bool.false := by kernel_rfl
@[simp] theorem t_za74 : zeroA Go.Proofs.Tryd.prog 74 = Option.some (AV.int IntKind.u32 (0)) := by kernel_rfl
@[simp] theorem t_sz75 : sizeT Go.Proofs.Tryd.prog 75 = Option.some 65 := by kernel_rfl
@[simp] theorem t_by75 : bytesT Go.Proofs.Tryd.prog 75 = Option.some 65 := by kernel_rfl
@[simp] theorem t_ag75 : isAggT Go.Proofs.Tryd.prog 75 = Option.some Bool.true := by kernel_rfl
@[simp] theorem t_za75 : zeroA Go.Proofs.Tryd.prog 75 = Option.some (AV.agg [AV.int IntKind.u8 (0), AV.int IntKind.u8 (0), AV.int IntKind.u8 (0), AV.int IntKind.u8 (0), AV.int IntKind.u8 (0), AV.int IntKind.u8 (0), AV.int IntKind.u8 (0), AV.int IntKind.u8 (0), AV.int IntKind.u8 (0), AV.int IntKind.u8 (0), AV.int IntKind.u8 (0), AV.int IntKind.u8 (0), AV.int IntKind.u8 (0), AV.int IntKind.u8 (0), AV.int IntKind.u8 (0), AV.int IntKind.u8 (0), AV.int IntKind.u8 (0), AV.int IntKind.u8 (0), AV.int IntKind.u8 (0), AV.int IntKind.u8 (0), AV.int IntKind.u8 (0), AV.int IntKind.u8 (0), AV.int IntKind.u8 (0), AV.int IntKind.u8 (0), AV.int IntKind.u8 (0), AV.int IntKind.u8 (0), AV.int IntKind.u8 (0), AV.int IntKind.u8 (0), AV.int IntKind.u8 (0), AV.int IntKind.u8 (0), AV.int IntKind.u8 (0), AV.int IntKind.u8 (0), AV.int IntKind.u8 (0), AV.int IntKind.u8 (0), AV.int IntKind.u8 (0), AV.int IntKind.u8 (0), AV.int IntKind.u8 (0), AV.int IntKind.u8 (0), AV.int IntKind.u8 (0), AV.int IntKind.u8 (0), AV.int IntKind.u8 (0), AV.int IntKind.u8 (0), AV.int IntKind.u8 (0), AV.int IntKind.u8 (0), AV.int IntKind.u8 (0), AV.int IntKind.u8 (0), AV.int IntKind.u8 (0), AV.int IntKind.u8 (0), AV.int IntKind.u8 (0), AV.int IntKind.u8 (0), AV.int IntKind.u8 (0), AV.int IntKind.u8 (0), AV.int IntKind.u8 (0), AV.int IntKind.u8 (0), AV.int IntKind.u8 (0), AV.int IntKind.u8 (0), AV.int IntKind.u8 (0), AV.int IntKind.u8 (0), AV.int IntKind.u8 (0), AV.int IntKind.u8 (0), AV.int IntKind.u8 (0), AV.int IntKind.u8 (0), AV.int IntKind.u8 (0), AV.int IntKind.u8 (0), AV.int IntKind.u8 (0)]) := by kernel_rfl
@[simp] theorem t_sz76 : sizeT Go.Proofs.Tryd.prog 76 = Option.some 1 := by kernel_rfl
@[simp] theorem t_by76 : bytesT Go.Proofs.Tryd.prog 76 = Option.some 8 := by kernel_rfl
@[simp] theorem t_ag76 : isAggT Go.Proofs.Tryd.prog 76 = Option.some Bool.false := by kernel_rfl
@[simp] theorem t_za76 : zeroA Go.Proofs.Tryd.prog 76 = Option.some AV.nilfunc := by kernel_rfl
@[simp] theorem t_sz77 : sizeT Go.Proofs.Tryd.prog 77 = Option.some 1 := by kernel_rfl
@[simp] theorem t_by77 : bytesT Go.Proofs.Tryd.prog 77 = Option.some 8 := by kernel_rfl
@[simp] theorem t_ag77 : isAggT Go.Proofs.Tryd.prog 77 = Option.some Bool.false := by kernel_rfl
@[simp] theorem t_za77 : zeroA Go.Proofs.Tryd.prog 77 = Option.some (AV.int IntKind.i64 (0)) := by kernel_rfl
@[simp] theorem t_sz78 : sizeT Go.Proofs.Tryd.prog 78 = Option.some 1 := by kernel_rfl
@[simp] theorem t_by78 : bytesT Go.Proofs.Tryd.prog 78 = Option.some 0 := by kernel_rfl
@[simp] theorem t_ag78 : isAggT Go.Proofs.Tryd.prog 78 = Option.some Bool.false := by kernel_rfl
@[simp] theorem t_za78 : zeroA Go.Proofs.Tryd.prog 78 = Option.some (AV.tuple [AV.int IntKind.i64 (0), AV.int IntKind.i64 (0)]) := by kernel_rfl
@[simp] theorem t_sz79 : sizeT Go.Proofs.Tryd.prog 79 = Option.some 1 := by kernel_rfl
@[simp] theorem t_by79 : bytesT Go.Proofs.Tryd.prog 79 = Option.some 8 := by kernel_rfl
@[simp] theorem t_ag79 : isAggT Go.Proofs.Tryd.prog 79 = Option.some Bool.false := by kernel_rfl
@[simp] theorem t_za79 : zeroA Go.Proofs.Tryd.prog 79 = Option.some AV.nilfunc := by kernel_rfl
@[simp] theorem t_sz80 : sizeT Go.Proofs.Tryd.prog 80 = Option.some 1 := by kernel_rfl
@[simp] theorem t_by80 : bytesT Go.Proofs.Tryd.prog 80 = Option.some 8 := by kernel_rfl
@[simp] theorem t_ag80 : isAggT Go.Proofs.Tryd.prog 80 = Option.some Bool.false := by kernel_rfl
@[simp] theorem t_za80 : zeroA Go.Proofs.Tryd.prog 80 = Option.some AV.nilfunc := by kernel_rfl
@[simp] theorem t_sz81 : sizeT Go.Proofs.Tryd.prog 81 = Option.some 1 := by kernel_rfl
@[simp] theorem t_by81 : bytesT Go.Proofs.Tryd.prog 81 = Option.some 8 := by kernel_rfl
@[simp] theorem t_ag81 : isAggT Go.Proofs.Tryd.prog 81 = Option.some Bool.false := by kernel_rfl
@[simp] theorem t_za81 : zeroA Go.Proofs.Tryd.prog 81 = Option.some AV.nilfunc := by kernel_rfl
@[simp] theorem t_sz82 : sizeT Go.Proofs.Tryd.prog 82 = Option.some 1 := by kernel_rfl
@[simp] theorem t_by82 : bytesT Go.Proofs.Tryd.prog 82 = Option.some 0 := by kernel_rfl
@[simp] theorem t_ag82 : isAggT Go.Proofs.Tryd.prog 82 = Option.some Bool.false := by kernel_rfl
@[simp] theorem t_za82 : zeroA Go.Proofs.Tryd.prog 82 = Option.some (AV.tuple [AV.int IntKind.i64 (0), AV.bool Bool.false]) := by kernel_rfl
@[simp] theorem t_sz83 : sizeT Go.Proofs.Tryd.prog 83 = Option.some 1 := by kernel_rfl
@[simp] theorem t_by83 : bytesT Go.Proofs.Tryd.prog 83 = Option.some 8 := by kernel_rfl
@[simp] theorem t_ag83 : isAggT Go.Proofs.Tryd.prog 83 = Option.some Bool.false := by kernel_rfl
@[simp] theorem t_za83 : zeroA Go.Proofs.Tryd.prog 83 = Option.some AV.nilfunc := by kernel_rfl
@[simp] theorem t_sz84 : sizeT Go.Proofs.Tryd.prog 84 = Option.some 1 := by kernel_rfl
@[simp] theorem t_by84 : bytesT Go.Proofs.Tryd.prog 84 = Option.some 8 := by kernel_rfl
@[simp] theorem t_ag84 : isAggT Go.Proofs.Tryd.prog 84 = Option.some Bool.false := by kernel_rfl
@[simp] theorem t_za84 : zeroA Go.Proofs.Tryd.prog 84 = Option.some AV.nilfunc := by kernel_rfl
@[simp] theorem t_sz85 : sizeT Go.Proofs.Tryd.prog 85 = Option.some 1 := by kernel_rfl
@[simp] theorem t_by85 : bytesT Go.Proofs.Tryd.prog 85 = Option.some 8 := by kernel_rfl
@[simp] theorem t_ag85 : isAggT Go.Proofs.Tryd.prog 85 = Option.some Bool.false := by kernel_rfl
@[simp] theorem t_za85 : zeroA Go.Proofs.Tryd.prog 85 = Option.some (AV.int IntKind.u64 (0)) := by kernel_rfl
@[simp] theorem t_sz86 : sizeT Go.Proofs.Tryd.prog 86 = Option.some 1 := by kernel_rfl
@[simp] theorem t_by86 : bytesT Go.Proofs.Tryd.prog 86 = Option.some 8 := by kernel_rfl
@[simp] theorem t_ag86 : isAggT Go.Proofs.Tryd.prog 86 = Option.some Bool.false := by kernel_rfl
@[simp] theorem t_za86 : zeroA Go.Proofs.Tryd.prog 86 = Option.some AV.nilfunc := by kernel_rfl
@[simp] theorem t_sz87 : sizeT Go.Proofs.Tryd.prog 87 = Option.some 1 := by kernel_rfl
@[simp] theorem t_by87 : bytesT Go.Proofs.Tryd.prog 87 = Option.some 8 := by kernel_rfl
@[simp] theorem t_ag87 : isAggT Go.Proofs.Tryd.prog 87 = Option.some Bool.false := by kernel_rfl
@[simp] theorem t_za87 : zeroA Go.Proofs.Tryd.prog 87 = Option.some AV.nilfunc := by kernel_rfl
@[simp] theorem t_sz88 : sizeT Go.Proofs.Tryd.prog 88 = Option.some 1 := by kernel_rfl
@[simp] theorem t_by88 : bytesT Go.Proofs.Tryd.prog 88 = Option.some 8 := by kernel_rfl
@[simp] theorem t_ag88 : isAggT Go.Proofs.Tryd.prog 88 = Option.some Bool.false := by kernel_rfl
@[simp] theorem t_za88 : zeroA Go.Proofs.Tryd.prog 88 = Option.some AV.nilfunc := by kernel_rfl
@[simp] theorem t_sz89 : sizeT Go.Proofs.Tryd.prog 89 = Option.some 1 := by kernel_rfl
@[simp] theorem t_by89 : bytesT Go.Proofs.Tryd.prog 89 = Option.some 8 := by kernel_rfl
@[simp] theorem t_ag89 : isAggT Go.Proofs.Tryd.prog 89 = Option.some Bool.false := by kernel_rfl
@[simp] theorem t_za89 : zeroA Go.Proofs.Tryd.prog 89 = Option.some AV.nilptr := by kernel_rfl
@[simp] theorem t_sz90 : sizeT Go.Proofs.Tryd.prog 90 = Option.some 1 := by kernel_rfl
@[simp] theorem t_by90 : bytesT Go.Proofs.Tryd.prog 90 = Option.some 8 := by kernel_rfl
@[simp] theorem t_ag90 : isAggT Go.Proofs.Tryd.prog 90 = Option.some Bool.false := by kernel_rfl
@[simp] theorem t_za90 : zeroA Go.Proofs.Tryd.prog 90 = Option.some AV.nilfunc := by kernel_rfl
@[simp] theorem t_sz91 : sizeT Go.Proofs.Tryd.prog 91 = Option.some 32 := by kernel_rfl
@[simp] theorem t_by91 : bytesT Go.Proofs.Tryd.prog 91 = Option.some 32 := by kernel_rfl
@[simp] theorem t_ag91 : isAggT Go.Proofs.Tryd.prog 91 = Option.some Bool.true := by kernel_rfl
@[simp] theorem t_za91 : zeroA Go.Proofs.Tryd.prog 91 = Option.some (AV.agg [AV.int IntKind.u8 (0), AV.int IntKind.u8 (0), AV.int IntKind.u8 (0), AV.int IntKind.u8 (0), AV.int IntKind.u8 (0), AV.int IntKind.u8 (0), AV.int IntKind.u8 (0), AV.int IntKind.u8 (0), AV.int IntKind.u8 (0), AV.int IntKind.u8 (0), AV.int IntKind.u8 (0), AV.int IntKind.u8 (0), AV.int IntKind.u8 (0), AV.int IntKind.u8 (0), AV.int IntKind.u8 (0), AV.int IntKind.u8 (0), AV.int IntKind.u8 (0), AV.int IntKind.u8 (0), AV.int IntKind.u8 (0), AV.int IntKind.u8 (0), AV.int IntKind.u8 (0), AV.int IntKind.u8 (0), AV.int IntKind.u8 (0), AV.int IntKind.u8 (0), AV.int IntKind.u8 (0), AV.int IntKind.u8 (0), AV.int IntKind.u8 (0), AV.int IntKind.u8 (0), AV.int IntKind.u8 (0), AV.int IntKind.u8 (0), AV.int IntKind.u8 (0), AV.int IntKind.u8 (0)]) := by kernel_rfl
@[simp] theorem t_sz92 : sizeT Go.Proofs.Tryd.prog 92 = Option.some 64 := by kernel_rfl
@[simp] theorem t_by92 : bytesT Go.Proofs.Tryd.prog 92 = Option.some 64 := by kernel_rfl
@[simp] theorem t_ag92 : isAggT Go.Proofs.Tryd.prog 92 = Option.some Bool.true := by kernel_rfl
@[simp] theorem t_za92 : zeroA Go.Proofs.Tryd.prog 92 = Option.some (AV.agg [AV.int IntKind.u8 (0), AV.int IntKind.u8 (0), AV.int IntKind.u8 (0), AV.int IntKind.u8 (0), AV.int IntKind.u8 (0), AV.int IntKind.u8 (0), AV.int IntKind.u8 (0), AV.int IntKind.u8 (0), AV.int IntKind.u8 (0), AV.int IntKind.u8 (0), AV.int IntKind.u8 (0), AV.int IntKind.u8 (0), AV.int IntKind.u8 (0), AV.int IntKind.u8 (0), AV.int IntKind.u8 (0), AV.int IntKind.u8 (0), AV.int IntKind.u8 (0), AV.int IntKind.u8 (0), AV.int IntKind.u8 (0), AV.int IntKind.u8 (0), AV.int IntKind.u8 (0), AV.int IntKind.u8 (0), AV.int IntKind.u8 (0), AV.int IntKind.u8 (0), AV.int IntKind.u8 (0), AV.int IntKind.u8 (0), AV.int IntKind.u8 (0), AV.int IntKind.u8 (0), AV.int IntKind.u8 (0), AV.int IntKind.u8 (0), AV.int IntKind.u8 (0), AV.int IntKind.u8 (0), AV.int IntKind.u8 (0), AV.int IntKind.u8 (0), AV.int IntKind.u8 (0), AV.int IntKind.u8 (0), AV.int IntKind.u8 (0), AV.int IntKind.u8 (0), AV.int IntKind.u8 (0), AV.int IntKind.u8 (0), AV.int IntKind.u8 (0), AV.int IntKind.u8 (0), AV.int IntKind.u8 (0), AV.int IntKind.u8 (0), AV.int IntKind.u8 (0), AV.int IntKind.u8 (0), AV.int IntKind.u8 (0), AV.int IntKind.u8 (0), AV.int IntKind.u8 (0), AV.int IntKind.u8 (0), AV.int IntKind.u8 (0), AV.int IntKind.u8 (0), AV.int IntKind.u8 (0), AV.int IntKind.u8 (0), AV.int IntKind.u8 (0), AV.int IntKind.u8 (0), AV.int IntKind.u8 (0), AV.int IntKind.u8 (0), AV.int IntKind.u8 (0), AV.int IntKind.u8 (0), AV.int IntKind.u8 (0), AV.int IntKind.u8 (0), AV.int IntKind.u8 (0), AV.int IntKind.u8 (0)]) := by kernel_rfl
@[simp] theorem t_sz93 : sizeT Go.Proofs.Tryd.prog 93 = Option.some 1 := by kernel_rfl
@[simp] theorem t_by93 : bytesT Go.Proofs.Tryd.prog 93 = Option.some 8 := by kernel_rfl
@[simp] theorem t_ag93 : isAggT Go.Proofs.Tryd.prog 93 = Option.some Bool.false := by kernel_rfl
@[simp] theorem t_za93 : zeroA Go.Proofs.Tryd.prog 93 = Option.some AV.nilptr := by kernel_rfl
@[simp] theorem t_sz94 : sizeT Go.Proofs.Tryd.prog 94 = Option.some 1 := by kernel_rfl
@[simp] theorem t_by94 : bytesT Go.Proofs.Tryd.prog 94 = Option.some 0 := by kernel_rfl
@[simp] theorem t_ag94 : isAggT Go.Proofs.Tryd.prog 94 = Option.some Bool.false := by kernel_rfl
@[simp] theorem t_za94 : zeroA Go.Proofs.Tryd.prog 94 = Option.some (AV.tuple [AV.int IntKind.i64 (0), AV.int IntKind.i64 (0)]) := by kernel_rfl
@[simp] theorem t_sz95 : sizeT Go.Proofs.Tryd.prog 95 = Option.some 1 := by kernel_rfl
@[simp] theorem t_by95 : bytesT Go.Proofs.Tryd.prog 95 = Option.some 8 := by kernel_rfl
@[simp] theorem t_ag95 : isAggT Go.Proofs.Tryd.prog 95 = Option.some Bool.false := by kernel_rfl
@[simp] theorem t_za95 : zeroA Go.Proofs.Tryd.prog 95 = Option.some AV.nilfunc := by kernel_rfl
@[simp] theorem t_sz96 : sizeT Go.Proofs.Tryd.prog 96 = Option.some 1 := by kernel_rfl
@[simp] theorem t_by96 : bytesT Go.Proofs.Tryd.prog 96 = Option.some 8 := by kernel_rfl
@[simp] theorem t_ag96 : isAggT Go.Proofs.Tryd.prog 96 = Option.some Bool.false := by kernel_rfl
@[simp] theorem t_za96 : zeroA Go.Proofs.Tryd.prog 96 = Option.some AV.nilfunc := by kernel_rfl
@[simp] theorem t_sz97 : sizeT Go.Proofs.Tryd.prog 97 = Option.some 4 := by kernel_rfl
@[simp] theorem t_by97 : bytesT Go.Proofs.Tryd.prog 97 = Option.some 40 := by kernel_rfl
@[simp] theorem t_ag97 : isAggT Go.Proofs.Tryd.prog 97 = Option.some Bool.true := by kernel_rfl
@[simp] theorem t_za97 : zeroA Go.Proofs.Tryd.prog 97 = Option.some (AV.agg [AV.nilptr, AV.nilptr, AV.nilptr, AV.str []]) := by kernel_rfl
@[simp] theorem t_sz98 : sizeT Go.Proofs.Tryd.prog 98 = Option.some 4 := by kernel_rfl
@[simp] theorem t_by98 : bytesT Go.Proofs.Tryd.prog 98 = Option.some 40 := by kernel_rfl
@[simp] theorem t_ag98 : isAggT Go.Proofs.Tryd.prog 98 = Option.some Bool.true := by kernel_rfl
@[simp] theorem t_za98 : zeroA Go.Proofs.Tryd.prog 98 = Option.some (AV.agg [AV.nilptr, AV.nilptr, AV.nilptr, AV.str []]) := by kernel_rfl
@[simp] theorem t_sz99 : sizeT Go.Proofs.Tryd.prog 99 = Option.some 0 := by kernel_rfl
@[simp] theorem t_by99 : bytesT Go.Proofs.Tryd.prog 99 = Option.some 0 := by kernel_rfl
@[simp] theorem t_ag99 : isAggT Go.Proofs.Tryd.prog 99 = Option.some Bool.true := by kernel_rfl
@[simp] theorem t_za99 : zeroA Go.Proofs.Tryd.prog 99 = Option.some (AV.agg []) := by kernel_rfl
@[simp] theorem t_sz100 : sizeT Go.Proofs.Tryd.prog 100 = Option.some 0 := by kernel_rfl
@[simp] theorem t_by100 : bytesT Go.Proofs.Tryd.prog 100 = Option.some 0 := by kernel_rfl
@[simp] theorem t_ag100 : isAggT Go.Proofs.Tryd.prog 100 = Option.some Bool.true := by kernel_rfl
@[simp] theorem t_za100 : zeroA Go.Proofs.Tryd.prog 100 = Option.some (AV.agg []) := by kernel_rfl
@[simp] theorem t_sz101 : sizeT Go.Proofs.Tryd.prog 101 = Option.some 0 := by kernel_rfl
@[simp] theorem t_by101 : bytesT Go.Proofs.Tryd.prog 101 = Option.some 0 := by kernel_rfl
@[simp] theorem t_ag101 : isAggT Go.Proofs.Tryd.prog 101 = Option.some Bool.true := by kernel_rfl
@[simp] theorem t_za101 : zeroA Go.Proofs.Tryd.prog 101 = Option.some (AV.agg []) := by kernel_rfl
@[simp] theorem t_sz102 : sizeT Go.Proofs.Tryd.prog 102 = Option.some 1 := by kernel_rfl
@[simp] theorem t_by102 : bytesT Go.Proofs.Tryd.prog 102 = Option.some 8 := by kernel_rfl
@[simp] theorem t_ag102 : isAggT Go.Proofs.Tryd.prog 102 = Option.some Bool.false := by kernel_rfl
@[simp] theorem t_za102 : zeroA Go.Proofs.Tryd.prog 102 = Option.some AV.nilfunc := by kernel_rfl
@[simp] theorem t_sz103 : sizeT Go.Proofs.Tryd.prog 103 = Option.some 1 := by kernel_rfl
@[simp] theorem t_by103 : bytesT Go.Proofs.Tryd.prog 103 = Option.some 1 := by kernel_rfl
@[simp] theorem t_ag103 : isAggT Go.Proofs.Tryd.prog 103 = Option.some Bool.false := by kernel_rfl
@[simp] theorem t_za103 : zeroA Go.Proofs.Tryd.prog 103 = Option.some (AV.int IntKind.u8 (0)) := by kernel_rfl
@[simp] theorem t_sz104 : sizeT Go.Proofs.Tryd.prog 104 = Option.some 1 := by kernel_rfl
@[simp] theorem t_by104 : bytesT Go.Proofs.Tryd.prog 104 = Option.some 1 := by kernel_rfl
@[simp] theorem t_ag104 : isAggT Go.Proofs.Tryd.prog 104 = Option.some Bool.false := by kernel_rfl
@[simp] theorem t_za104 : zeroA Go.Proofs.Tryd.prog 104 = Option.some (AV.int IntKind.u8 (0)) := by kernel_rfl
@[simp] theorem t_sz105 : sizeT Go.Proofs.Tryd.prog 105 = Option.some 1 := by kernel_rfl
@[simp] theorem t_by105 : bytesT Go.Proofs.Tryd.prog 105 = Option.some 8 := by kernel_rfl
@[simp] theorem t_ag105 : isAggT Go.Proofs.Tryd.prog 105 = Option.some Bool.false := by kernel_rfl
@[simp] theorem t_za105 : zeroA Go.Proofs.Tryd.prog 105 = Option.some AV.nilfunc := by kernel_rfl
@[simp] theorem t_sz106 : sizeT Go.Proofs.Tryd.prog 106 = Option.some 1 := by kernel_rfl
@[simp] theorem t_by106 : bytesT Go.Proofs.Tryd.prog 106 = Option.some 8 := by kernel_rfl
@[simp] theorem t_ag106 : isAggT Go.Proofs.Tryd.prog 106 = Option.some Bool.false := by kernel_rfl
@[simp] theorem t_za106 : zeroA Go.Proofs.Tryd.prog 106 = Option.some AV.nilptr := by kernel_rfl
@[simp] theorem t_sz107 : sizeT Go.Proofs.Tryd.prog 107 = Option.some 1 := by kernel_rfl
@[simp] theorem t_by107 : bytesT Go.Proofs.Tryd.prog 107 = Option.some 4 := by kernel_rfl
@[simp] theorem t_ag107 : isAggT Go.Proofs.Tryd.prog 107 = Option.some Bool.false := by kernel_rfl
@[simp] theorem t_za107 : zeroA Go.Proofs.Tryd.prog 107 = Option.some (AV.int IntKind.i32 (0)) := by kernel_rfl
@[simp] theorem t_sz108 : sizeT Go.Proofs.Tryd.prog 108 = Option.some 1 := by kernel_rfl
@[simp] theorem t_by108 : bytesT Go.Proofs.Tryd.prog 108 = Option.some 4 := by kernel_rfl
@[simp] theorem t_ag108 : isAggT Go.Proofs.Tryd.prog 108 = Option.some Bool.false := by kernel_rfl
@[simp] theorem t_za108 : zeroA Go.Proofs.Tryd.prog 108 = Option.some (AV.int IntKind.i32 (0)) := by kernel_rfl
@[simp] theorem t_sz109 : sizeT Go.Proofs.Tryd.prog 109 = Option.some 11 := by kernel_rfl
@[simp] theorem t_by109 : bytesT Go.Proofs.Tryd.prog 109 = Option.some 48 := by kernel_rfl
@[simp] theorem t_ag109 : isAggT Go.Proofs.Tryd.prog 109 = Option.some Bool.true := by kernel_rfl
@[simp] theorem t_za109 : zeroA Go.Proofs.Tryd.prog 109 = Option.some (AV.agg [AV.int IntKind.u64 (0), AV.int IntKind.u64 (0), AV.int IntKind.u32 (0), AV.int IntKind.u8 (0), AV.int IntKind.u8 (0), AV.int IntKind.u8 (0), AV.int IntKind.u8 (0), AV.nilfunc, AV.nilptr, AV.int IntKind.i32 (0), AV.int IntKind.i32 (0)]) := by kernel_rfl
@[simp] theorem t_sz110 : sizeT Go.Proofs.Tryd.prog 110 = Option.some 11 := by kernel_rfl
@[simp] theorem t_by110 : bytesT Go.Proofs.Tryd.prog 110 = Option.some 48 := by kernel_rfl
@[simp] theorem t_ag110 : isAggT Go.Proofs.Tryd.prog 110 = Option.some Bool.true := by kernel_rfl
@[simp] theorem t_za110 : zeroA Go.Proofs.Tryd.prog 110 = Option.some (AV.agg [AV.int IntKind.u64 (0), AV.int IntKind.u64 (0), AV.int IntKind.u32 (0), AV.int IntKind.u8 (0), AV.int IntKind.u8 (0), AV.int IntKind.u8 (0), AV.int IntKind.u8 (0), AV.nilfunc, AV.nilptr, AV.int IntKind.i32 (0), AV.int IntKind.i32 (0)]) := by kernel_rfl
@[simp] theorem t_sz111 : sizeT Go.Proofs.Tryd.prog 111 = Option.some 1 := by kernel_rfl
@[simp] theorem t_by111 : bytesT Go.Proofs.Tryd.prog 111 = Option.some 8 := by kernel_rfl
@[simp] theorem t_ag111 : isAggT Go.Proofs.Tryd.prog 111 = Option.some Bool.false := by kernel_rfl
@[simp] theorem t_za111 : zeroA Go.Proofs.Tryd.prog 111 = Option.some AV.nilptr := by kernel_rfl
@[simp] theorem t_pl7 : placesOf Go.Proofs.Tryd.prog 7 = some fun i => ([(0, 1), (1, 1), (2, 1), (3, 1)] : List (Nat × Nat)).toArray[i]? := by kernel_rfl
@[simp] theorem t_pl8 : placesOf Go.Proofs.Tryd.prog 8 = some fun i => ([(0, 1), (1, 1), (2, 1), (3, 1)] : List (Nat × Nat)).toArray[i]? := by kernel_rfl
@[simp] theorem t_pl13 : placesOf Go.Proofs.Tryd.prog 13 = some fun i => ([(0, 1), (1, 1)] : List (Nat × Nat)).toArray[i]? := by kernel_rfl
@[simp] theorem t_pl14 : placesOf Go.Proofs.Tryd.prog 14 = some fun i => ([(0, 1), (1, 1)] : List (Nat × Nat)).toArray[i]? := by kernel_rfl
@[simp] theorem t_pl18 : placesOf Go.Proofs.Tryd.prog 18 = some fun i => ([(0, 1)] : List (Nat × Nat)).toArray[i]? := by kernel_rfl
@[simp] theorem t_pl19 : placesOf Go.Proofs.Tryd.prog 19 = some fun i => ([(0, 1)] : List (Nat × Nat)).toArray[i]? := by kernel_rfl
@[simp] theorem t_pl22 : placesOf Go.Proofs.Tryd.prog 22 = some fun i => ([(0, 1), (1, 1), (2, 1)] : List (Nat × Nat)).toArray[i]? := by kernel_rfl
@[simp] theorem t_pl23 : placesOf Go.Proofs.Tryd.prog 23 = some fun i => ([(0, 1), (1, 1), (2, 1)] : List (Nat × Nat)).toArray[i]? := by kernel_rfl
@[simp] theorem t_eg23 : Go.Proofs.Tryd.prog.eqGuardType Go.Proofs.Tryd.prog.depth 23 = false := by kernel_rfl
@[simp] theorem t_st23 : Go.Proofs.Tryd.prog.stoodInHeld 23 = false := by kernel_rfl
@[simp] theorem t_pl61 : placesOf Go.Proofs.Tryd.prog 61 = some fun i => some (i * 1, 1) := by kernel_rfl
@[simp] theorem t_pl73 : placesOf Go.Proofs.Tryd.prog 73 = some fun i => some (i * 1, 1) := by kernel_rfl
@[simp] theorem t_pl75 : placesOf Go.Proofs.Tryd.prog 75 = some fun i => some (i * 1, 1) := by kernel_rfl
@[simp] theorem t_pl91 : placesOf Go.Proofs.Tryd.prog 91 = some fun i => some (i * 1, 1) := by kernel_rfl
@[simp] theorem t_pl92 : placesOf Go.Proofs.Tryd.prog 92 = some fun i => some (i * 1, 1) := by kernel_rfl
@[simp] theorem t_pl97 : placesOf Go.Proofs.Tryd.prog 97 = some fun i => ([(0, 1), (1, 1), (2, 1), (3, 1)] : List (Nat × Nat)).toArray[i]? := by kernel_rfl
@[simp] theorem t_pl98 : placesOf Go.Proofs.Tryd.prog 98 = some fun i => ([(0, 1), (1, 1), (2, 1), (3, 1)] : List (Nat × Nat)).toArray[i]? := by kernel_rfl
@[simp] theorem t_pl99 : placesOf Go.Proofs.Tryd.prog 99 = some fun i => some (i * 1, 1) := by kernel_rfl
@[simp] theorem t_pl100 : placesOf Go.Proofs.Tryd.prog 100 = some fun i => ([(0, 0)] : List (Nat × Nat)).toArray[i]? := by kernel_rfl
@[simp] theorem t_pl101 : placesOf Go.Proofs.Tryd.prog 101 = some fun i => ([(0, 0)] : List (Nat × Nat)).toArray[i]? := by kernel_rfl
@[simp] theorem t_pl109 : placesOf Go.Proofs.Tryd.prog 109 = some fun i => ([(0, 1), (1, 1), (2, 1), (3, 1), (4, 1), (5, 1), (6, 1), (7, 1), (8, 1), (9, 1), (10, 1)] : List (Nat × Nat)).toArray[i]? := by kernel_rfl
@[simp] theorem t_pl110 : placesOf Go.Proofs.Tryd.prog 110 = some fun i => ([(0, 1), (1, 1), (2, 1), (3, 1), (4, 1), (5, 1), (6, 1), (7, 1), (8, 1), (9, 1), (10, 1)] : List (Nat × Nat)).toArray[i]? := by kernel_rfl
@[simp] theorem t_me93_Next : methT Go.Proofs.Tryd.prog 93 "Next" = some 72 := by kernel_rfl
attribute [simp] Go.Proofs.Tryd.underlying0 Go.Proofs.Tryd.underlying1 Go.Proofs.Tryd.underlying2 Go.Proofs.Tryd.underlying3 Go.Proofs.Tryd.underlying4 Go.Proofs.Tryd.underlying5 Go.Proofs.Tryd.underlying6 Go.Proofs.Tryd.underlying7 Go.Proofs.Tryd.underlying8 Go.Proofs.Tryd.underlying9 Go.Proofs.Tryd.underlying10 Go.Proofs.Tryd.underlying11 Go.Proofs.Tryd.underlying12 Go.Proofs.Tryd.underlying13 Go.Proofs.Tryd.underlying14 Go.Proofs.Tryd.underlying15 Go.Proofs.Tryd.underlying16 Go.Proofs.Tryd.underlying17 Go.Proofs.Tryd.underlying18 Go.Proofs.Tryd.underlying19 Go.Proofs.Tryd.underlying20 Go.Proofs.Tryd.underlying21 Go.Proofs.Tryd.underlying22 Go.Proofs.Tryd.underlying23 Go.Proofs.Tryd.underlying24 Go.Proofs.Tryd.underlying25 Go.Proofs.Tryd.underlying26 Go.Proofs.Tryd.underlying27 Go.Proofs.Tryd.underlying28 Go.Proofs.Tryd.underlying29 Go.Proofs.Tryd.underlying30 Go.Proofs.Tryd.underlying31 Go.Proofs.Tryd.underlying32 Go.Proofs.Tryd.underlying33 Go.Proofs.Tryd.underlying34 Go.Proofs.Tryd.underlying35 Go.Proofs.Tryd.underlying36 Go.Proofs.Tryd.underlying37 Go.Proofs.Tryd.underlying38 Go.Proofs.Tryd.underlying39 Go.Proofs.Tryd.underlying40 Go.Proofs.Tryd.underlying41 Go.Proofs.Tryd.underlying42 Go.Proofs.Tryd.underlying43 Go.Proofs.Tryd.underlying44 Go.Proofs.Tryd.underlying45 Go.Proofs.Tryd.underlying46 Go.Proofs.Tryd.underlying47 Go.Proofs.Tryd.underlying48 Go.Proofs.Tryd.underlying49 Go.Proofs.Tryd.underlying50 Go.Proofs.Tryd.underlying51 Go.Proofs.Tryd.underlying52 Go.Proofs.Tryd.underlying53 Go.Proofs.Tryd.underlying54 Go.Proofs.Tryd.underlying55 Go.Proofs.Tryd.underlying56 Go.Proofs.Tryd.underlying57 Go.Proofs.Tryd.underlying58 Go.Proofs.Tryd.underlying59 Go.Proofs.Tryd.underlying60 Go.Proofs.Tryd.underlying61 Go.Proofs.Tryd.underlying62 Go.Proofs.Tryd.underlying63 Go.Proofs.Tryd.underlying64 Go.Proofs.Tryd.underlying65 Go.Proofs.Tryd.underlying66 Go.Proofs.Tryd.underlying67 Go.Proofs.Tryd.underlying68 Go.Proofs.Tryd.underlying69 Go.Proofs.Tryd.underlying70 Go.Proofs.Tryd.underlying71 Go.Proofs.Tryd.underlying72 Go.Proofs.Tryd.underlying73 Go.Proofs.Tryd.underlying74 Go.Proofs.Tryd.underlying75 Go.Proofs.Tryd.underlying76 Go.Proofs.Tryd.underlying77 Go.Proofs.Tryd.underlying78 Go.Proofs.Tryd.underlying79 Go.Proofs.Tryd.underlying80 Go.Proofs.Tryd.underlying81 Go.Proofs.Tryd.underlying82 Go.Proofs.Tryd.underlying83 Go.Proofs.Tryd.underlying84 Go.Proofs.Tryd.underlying85 Go.Proofs.Tryd.underlying86 Go.Proofs.Tryd.underlying87 Go.Proofs.Tryd.underlying88 Go.Proofs.Tryd.underlying89 Go.Proofs.Tryd.underlying90 Go.Proofs.Tryd.underlying91 Go.Proofs.Tryd.underlying92 Go.Proofs.Tryd.underlying93 Go.Proofs.Tryd.underlying94 Go.Proofs.Tryd.underlying95 Go.Proofs.Tryd.underlying96 Go.Proofs.Tryd.underlying97 Go.Proofs.Tryd.underlying98 Go.Proofs.Tryd.underlying99 Go.Proofs.Tryd.underlying100 Go.Proofs.Tryd.underlying101 Go.Proofs.Tryd.underlying102 Go.Proofs.Tryd.underlying103 Go.Proofs.Tryd.underlying104 Go.Proofs.Tryd.underlying105 Go.Proofs.Tryd.underlying106 Go.Proofs.Tryd.underlying107 Go.Proofs.Tryd.underlying108 Go.Proofs.Tryd.underlying109 Go.Proofs.Tryd.underlying110 Go.Proofs.Tryd.underlying111
end Go.Proofs.YtcppoojgekaaoaaDoor.V
