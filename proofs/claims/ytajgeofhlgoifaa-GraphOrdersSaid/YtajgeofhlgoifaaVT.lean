/- The program's types, as the abstract states ask for them: written by program. -/
import Derived.Test.YtajgeofhlgoifaaProg
import Derived.Test.YtajgeofhlgoifaaV17
namespace Go.Proofs.Ytajgeofhlgoifaa.V
open Go
set_option maxRecDepth 100000
@[simp] theorem t_sz0 : sizeT Go.Proofs.Try.prog 0 = Option.some 1 := by kernel_rfl
@[simp] theorem t_by0 : bytesT Go.Proofs.Try.prog 0 = Option.some 0 := by kernel_rfl
@[simp] theorem t_ag0 : isAggT Go.Proofs.Try.prog 0 = Option.some Bool.false := by kernel_rfl
@[simp] theorem t_za0 : zeroA Go.Proofs.Try.prog 0 = Option.some (AV.tuple []) := by kernel_rfl
@[simp] theorem t_sz1 : sizeT Go.Proofs.Try.prog 1 = Option.some 1 := by kernel_rfl
@[simp] theorem t_by1 : bytesT Go.Proofs.Try.prog 1 = Option.some 8 := by kernel_rfl
@[simp] theorem t_ag1 : isAggT Go.Proofs.Try.prog 1 = Option.some Bool.false := by kernel_rfl
@[simp] theorem t_za1 : zeroA Go.Proofs.Try.prog 1 = Option.some AV.nilfunc := by kernel_rfl
@[simp] theorem t_sz2 : sizeT Go.Proofs.Try.prog 2 = Option.some 1 := by kernel_rfl
@[simp] theorem t_by2 : bytesT Go.Proofs.Try.prog 2 = Option.some 8 := by kernel_rfl
@[simp] theorem t_ag2 : isAggT Go.Proofs.Try.prog 2 = Option.some Bool.false := by kernel_rfl
@[simp] theorem t_za2 : zeroA Go.Proofs.Try.prog 2 = Option.some (AV.int IntKind.i64 (0)) := by kernel_rfl
@[simp] theorem t_sz3 : sizeT Go.Proofs.Try.prog 3 = Option.some 1 := by kernel_rfl
@[simp] theorem t_by3 : bytesT Go.Proofs.Try.prog 3 = Option.some 8 := by kernel_rfl
@[simp] theorem t_ag3 : isAggT Go.Proofs.Try.prog 3 = Option.some Bool.false := by kernel_rfl
@[simp] theorem t_za3 : zeroA Go.Proofs.Try.prog 3 = Option.some (AV.int IntKind.i64 (0)) := by kernel_rfl
@[simp] theorem t_sz4 : sizeT Go.Proofs.Try.prog 4 = Option.some 1 := by kernel_rfl
@[simp] theorem t_by4 : bytesT Go.Proofs.Try.prog 4 = Option.some 1 := by kernel_rfl
@[simp] theorem t_ag4 : isAggT Go.Proofs.Try.prog 4 = Option.some Bool.false := by kernel_rfl
@[simp] theorem t_za4 : zeroA Go.Proofs.Try.prog 4 = Option.some (AV.bool Bool.false) := by kernel_rfl
@[simp] theorem t_sz5 : sizeT Go.Proofs.Try.prog 5 = Option.some 1 := by kernel_rfl
@[simp] theorem t_by5 : bytesT Go.Proofs.Try.prog 5 = Option.some 1 := by kernel_rfl
@[simp] theorem t_ag5 : isAggT Go.Proofs.Try.prog 5 = Option.some Bool.false := by kernel_rfl
@[simp] theorem t_za5 : zeroA Go.Proofs.Try.prog 5 = Option.some (AV.int IntKind.u8 (0)) := by kernel_rfl
@[simp] theorem t_sz6 : sizeT Go.Proofs.Try.prog 6 = Option.some 1 := by kernel_rfl
@[simp] theorem t_by6 : bytesT Go.Proofs.Try.prog 6 = Option.some 1 := by kernel_rfl
@[simp] theorem t_ag6 : isAggT Go.Proofs.Try.prog 6 = Option.some Bool.false := by kernel_rfl
@[simp] theorem t_za6 : zeroA Go.Proofs.Try.prog 6 = Option.some (AV.int IntKind.u8 (0)) := by kernel_rfl
@[simp] theorem t_sz7 : sizeT Go.Proofs.Try.prog 7 = Option.some 4 := by kernel_rfl
@[simp] theorem t_by7 : bytesT Go.Proofs.Try.prog 7 = Option.some 24 := by kernel_rfl
@[simp] theorem t_ag7 : isAggT Go.Proofs.Try.prog 7 = Option.some Bool.true := by kernel_rfl
@[simp] theorem t_za7 : zeroA Go.Proofs.Try.prog 7 = Option.some (AV.agg [AV.int IntKind.i64 (0), AV.int IntKind.i64 (0), AV.bool Bool.false, AV.int IntKind.u8 (0)]) := by kernel_rfl
@[simp] theorem t_sz8 : sizeT Go.Proofs.Try.prog 8 = Option.some 4 := by kernel_rfl
@[simp] theorem t_by8 : bytesT Go.Proofs.Try.prog 8 = Option.some 24 := by kernel_rfl
@[simp] theorem t_ag8 : isAggT Go.Proofs.Try.prog 8 = Option.some Bool.true := by kernel_rfl
@[simp] theorem t_za8 : zeroA Go.Proofs.Try.prog 8 = Option.some (AV.agg [AV.int IntKind.i64 (0), AV.int IntKind.i64 (0), AV.bool Bool.false, AV.int IntKind.u8 (0)]) := by kernel_rfl
@[simp] theorem t_sz9 : sizeT Go.Proofs.Try.prog 9 = Option.some 1 := by kernel_rfl
@[simp] theorem t_by9 : bytesT Go.Proofs.Try.prog 9 = Option.some 16 := by kernel_rfl
@[simp] theorem t_ag9 : isAggT Go.Proofs.Try.prog 9 = Option.some Bool.false := by kernel_rfl
@[simp] theorem t_za9 : zeroA Go.Proofs.Try.prog 9 = Option.some (AV.str []) := by kernel_rfl
@[simp] theorem t_sz10 : sizeT Go.Proofs.Try.prog 10 = Option.some 1 := by kernel_rfl
@[simp] theorem t_by10 : bytesT Go.Proofs.Try.prog 10 = Option.some 16 := by kernel_rfl
@[simp] theorem t_ag10 : isAggT Go.Proofs.Try.prog 10 = Option.some Bool.false := by kernel_rfl
@[simp] theorem t_za10 : zeroA Go.Proofs.Try.prog 10 = Option.some (AV.str []) := by kernel_rfl
@[simp] theorem t_sz11 : sizeT Go.Proofs.Try.prog 11 = Option.some 1 := by kernel_rfl
@[simp] theorem t_by11 : bytesT Go.Proofs.Try.prog 11 = Option.some 16 := by kernel_rfl
@[simp] theorem t_ag11 : isAggT Go.Proofs.Try.prog 11 = Option.some Bool.false := by kernel_rfl
@[simp] theorem t_za11 : zeroA Go.Proofs.Try.prog 11 = Option.some (AV.str []) := by kernel_rfl
@[simp] theorem t_sz12 : sizeT Go.Proofs.Try.prog 12 = Option.some 1 := by kernel_rfl
@[simp] theorem t_by12 : bytesT Go.Proofs.Try.prog 12 = Option.some 8 := by kernel_rfl
@[simp] theorem t_ag12 : isAggT Go.Proofs.Try.prog 12 = Option.some Bool.false := by kernel_rfl
@[simp] theorem t_za12 : zeroA Go.Proofs.Try.prog 12 = Option.some (AV.int IntKind.u64 (0)) := by kernel_rfl
@[simp] theorem t_sz13 : sizeT Go.Proofs.Try.prog 13 = Option.some 2 := by kernel_rfl
@[simp] theorem t_by13 : bytesT Go.Proofs.Try.prog 13 = Option.some 24 := by kernel_rfl
@[simp] theorem t_ag13 : isAggT Go.Proofs.Try.prog 13 = Option.some Bool.true := by kernel_rfl
@[simp] theorem t_za13 : zeroA Go.Proofs.Try.prog 13 = Option.some (AV.agg [AV.str [], AV.int IntKind.u64 (0)]) := by kernel_rfl
@[simp] theorem t_sz14 : sizeT Go.Proofs.Try.prog 14 = Option.some 2 := by kernel_rfl
@[simp] theorem t_by14 : bytesT Go.Proofs.Try.prog 14 = Option.some 24 := by kernel_rfl
@[simp] theorem t_ag14 : isAggT Go.Proofs.Try.prog 14 = Option.some Bool.true := by kernel_rfl
@[simp] theorem t_za14 : zeroA Go.Proofs.Try.prog 14 = Option.some (AV.agg [AV.str [], AV.int IntKind.u64 (0)]) := by kernel_rfl
@[simp] theorem t_sz15 : sizeT Go.Proofs.Try.prog 15 = Option.some 1 := by kernel_rfl
@[simp] theorem t_by15 : bytesT Go.Proofs.Try.prog 15 = Option.some 8 := by kernel_rfl
@[simp] theorem t_ag15 : isAggT Go.Proofs.Try.prog 15 = Option.some Bool.false := by kernel_rfl
@[simp] theorem t_za15 : zeroA Go.Proofs.Try.prog 15 = Option.some AV.nilptr := by kernel_rfl
@[simp] theorem t_sz16 : sizeT Go.Proofs.Try.prog 16 = Option.some 1 := by kernel_rfl
@[simp] theorem t_by16 : bytesT Go.Proofs.Try.prog 16 = Option.some 8 := by kernel_rfl
@[simp] theorem t_ag16 : isAggT Go.Proofs.Try.prog 16 = Option.some Bool.false := by kernel_rfl
@[simp] theorem t_za16 : zeroA Go.Proofs.Try.prog 16 = Option.some AV.nilptr := by kernel_rfl
@[simp] theorem t_sz17 : sizeT Go.Proofs.Try.prog 17 = Option.some 1 := by kernel_rfl
@[simp] theorem t_by17 : bytesT Go.Proofs.Try.prog 17 = Option.some 8 := by kernel_rfl
@[simp] theorem t_ag17 : isAggT Go.Proofs.Try.prog 17 = Option.some Bool.false := by kernel_rfl
@[simp] theorem t_za17 : zeroA Go.Proofs.Try.prog 17 = Option.some AV.nilptr := by kernel_rfl
@[simp] theorem t_sz18 : sizeT Go.Proofs.Try.prog 18 = Option.some 1 := by kernel_rfl
@[simp] theorem t_by18 : bytesT Go.Proofs.Try.prog 18 = Option.some 8 := by kernel_rfl
@[simp] theorem t_ag18 : isAggT Go.Proofs.Try.prog 18 = Option.some Bool.true := by kernel_rfl
@[simp] theorem t_za18 : zeroA Go.Proofs.Try.prog 18 = Option.some (AV.agg [AV.nilptr]) := by kernel_rfl
@[simp] theorem t_sz19 : sizeT Go.Proofs.Try.prog 19 = Option.some 1 := by kernel_rfl
@[simp] theorem t_by19 : bytesT Go.Proofs.Try.prog 19 = Option.some 8 := by kernel_rfl
@[simp] theorem t_ag19 : isAggT Go.Proofs.Try.prog 19 = Option.some Bool.true := by kernel_rfl
@[simp] theorem t_za19 : zeroA Go.Proofs.Try.prog 19 = Option.some (AV.agg [AV.nilptr]) := by kernel_rfl
@[simp] theorem t_sz20 : sizeT Go.Proofs.Try.prog 20 = Option.some 1 := by kernel_rfl
@[simp] theorem t_by20 : bytesT Go.Proofs.Try.prog 20 = Option.some 16 := by kernel_rfl
@[simp] theorem t_ag20 : isAggT Go.Proofs.Try.prog 20 = Option.some Bool.false := by kernel_rfl
@[simp] theorem t_za20 : zeroA Go.Proofs.Try.prog 20 = Option.some AV.niliface := by kernel_rfl
@[simp] theorem t_sz21 : sizeT Go.Proofs.Try.prog 21 = Option.some 1 := by kernel_rfl
@[simp] theorem t_by21 : bytesT Go.Proofs.Try.prog 21 = Option.some 4 := by kernel_rfl
@[simp] theorem t_ag21 : isAggT Go.Proofs.Try.prog 21 = Option.some Bool.false := by kernel_rfl
@[simp] theorem t_za21 : zeroA Go.Proofs.Try.prog 21 = Option.some (AV.int IntKind.i32 (0)) := by kernel_rfl
@[simp] theorem t_sz22 : sizeT Go.Proofs.Try.prog 22 = Option.some 1 := by kernel_rfl
@[simp] theorem t_by22 : bytesT Go.Proofs.Try.prog 22 = Option.some 24 := by kernel_rfl
@[simp] theorem t_ag22 : isAggT Go.Proofs.Try.prog 22 = Option.some Bool.false := by kernel_rfl
@[simp] theorem t_za22 : zeroA Go.Proofs.Try.prog 22 = Option.some (AV.list [] Tok.full) := by kernel_rfl
@[simp] theorem t_sz23 : sizeT Go.Proofs.Try.prog 23 = Option.some 1 := by kernel_rfl
@[simp] theorem t_by23 : bytesT Go.Proofs.Try.prog 23 = Option.some 24 := by kernel_rfl
@[simp] theorem t_ag23 : isAggT Go.Proofs.Try.prog 23 = Option.some Bool.false := by kernel_rfl
@[simp] theorem t_za23 : zeroA Go.Proofs.Try.prog 23 = Option.some (AV.list [] Tok.full) := by kernel_rfl
@[simp] theorem t_sz24 : sizeT Go.Proofs.Try.prog 24 = Option.some 3 := by kernel_rfl
@[simp] theorem t_by24 : bytesT Go.Proofs.Try.prog 24 = Option.some 24 := by kernel_rfl
@[simp] theorem t_ag24 : isAggT Go.Proofs.Try.prog 24 = Option.some Bool.true := by kernel_rfl
@[simp] theorem t_za24 : zeroA Go.Proofs.Try.prog 24 = Option.some (AV.agg [AV.int IntKind.i64 (0), AV.int IntKind.i64 (0), AV.int IntKind.i64 (0)]) := by kernel_rfl
@[simp] theorem t_sz25 : sizeT Go.Proofs.Try.prog 25 = Option.some 3 := by kernel_rfl
@[simp] theorem t_by25 : bytesT Go.Proofs.Try.prog 25 = Option.some 24 := by kernel_rfl
@[simp] theorem t_ag25 : isAggT Go.Proofs.Try.prog 25 = Option.some Bool.true := by kernel_rfl
@[simp] theorem t_za25 : zeroA Go.Proofs.Try.prog 25 = Option.some (AV.agg [AV.int IntKind.i64 (0), AV.int IntKind.i64 (0), AV.int IntKind.i64 (0)]) := by kernel_rfl
@[simp] theorem t_sz26 : sizeT Go.Proofs.Try.prog 26 = Option.some 1 := by kernel_rfl
@[simp] theorem t_by26 : bytesT Go.Proofs.Try.prog 26 = Option.some 8 := by kernel_rfl
@[simp] theorem t_ag26 : isAggT Go.Proofs.Try.prog 26 = Option.some Bool.false := by kernel_rfl
@[simp] theorem t_za26 : zeroA Go.Proofs.Try.prog 26 = Option.some AV.nilfunc := by kernel_rfl
@[simp] theorem t_sz27 : sizeT Go.Proofs.Try.prog 27 = Option.some 1 := by kernel_rfl
@[simp] theorem t_by27 : bytesT Go.Proofs.Try.prog 27 = Option.some 8 := by kernel_rfl
@[simp] theorem t_ag27 : isAggT Go.Proofs.Try.prog 27 = Option.some Bool.false := by kernel_rfl
@[simp] theorem t_za27 : zeroA Go.Proofs.Try.prog 27 = Option.some AV.nilfunc := by kernel_rfl
@[simp] theorem t_sz28 : sizeT Go.Proofs.Try.prog 28 = Option.some 1 := by kernel_rfl
@[simp] theorem t_by28 : bytesT Go.Proofs.Try.prog 28 = Option.some 24 := by kernel_rfl
@[simp] theorem t_ag28 : isAggT Go.Proofs.Try.prog 28 = Option.some Bool.false := by kernel_rfl
@[simp] theorem t_za28 : zeroA Go.Proofs.Try.prog 28 = Option.some (AV.list [] Tok.full) := by kernel_rfl
@[simp] theorem t_sz29 : sizeT Go.Proofs.Try.prog 29 = Option.some 1 := by kernel_rfl
@[simp] theorem t_by29 : bytesT Go.Proofs.Try.prog 29 = Option.some 8 := by kernel_rfl
@[simp] theorem t_ag29 : isAggT Go.Proofs.Try.prog 29 = Option.some Bool.false := by kernel_rfl
@[simp] theorem t_za29 : zeroA Go.Proofs.Try.prog 29 = Option.some AV.nilfunc := by kernel_rfl
@[simp] theorem t_sz30 : sizeT Go.Proofs.Try.prog 30 = Option.some 1 := by kernel_rfl
@[simp] theorem t_by30 : bytesT Go.Proofs.Try.prog 30 = Option.some 24 := by kernel_rfl
@[simp] theorem t_ag30 : isAggT Go.Proofs.Try.prog 30 = Option.some Bool.false := by kernel_rfl
@[simp] theorem t_za30 : zeroA Go.Proofs.Try.prog 30 = Option.some (AV.list [] Tok.full) := by kernel_rfl
@[simp] theorem t_sz31 : sizeT Go.Proofs.Try.prog 31 = Option.some 1 := by kernel_rfl
@[simp] theorem t_by31 : bytesT Go.Proofs.Try.prog 31 = Option.some 8 := by kernel_rfl
@[simp] theorem t_ag31 : isAggT Go.Proofs.Try.prog 31 = Option.some Bool.false := by kernel_rfl
@[simp] theorem t_za31 : zeroA Go.Proofs.Try.prog 31 = Option.some AV.nilfunc := by kernel_rfl
@[simp] theorem t_sz32 : sizeT Go.Proofs.Try.prog 32 = Option.some 1 := by kernel_rfl
@[simp] theorem t_by32 : bytesT Go.Proofs.Try.prog 32 = Option.some 8 := by kernel_rfl
@[simp] theorem t_ag32 : isAggT Go.Proofs.Try.prog 32 = Option.some Bool.false := by kernel_rfl
@[simp] theorem t_za32 : zeroA Go.Proofs.Try.prog 32 = Option.some AV.nilfunc := by kernel_rfl
@[simp] theorem t_sz33 : sizeT Go.Proofs.Try.prog 33 = Option.some 1 := by kernel_rfl
@[simp] theorem t_by33 : bytesT Go.Proofs.Try.prog 33 = Option.some 8 := by kernel_rfl
@[simp] theorem t_ag33 : isAggT Go.Proofs.Try.prog 33 = Option.some Bool.false := by kernel_rfl
@[simp] theorem t_za33 : zeroA Go.Proofs.Try.prog 33 = Option.some AV.nilfunc := by kernel_rfl
@[simp] theorem t_sz34 : sizeT Go.Proofs.Try.prog 34 = Option.some 1 := by kernel_rfl
@[simp] theorem t_by34 : bytesT Go.Proofs.Try.prog 34 = Option.some 8 := by kernel_rfl
@[simp] theorem t_ag34 : isAggT Go.Proofs.Try.prog 34 = Option.some Bool.false := by kernel_rfl
@[simp] theorem t_za34 : zeroA Go.Proofs.Try.prog 34 = Option.some AV.nilfunc := by kernel_rfl
@[simp] theorem t_sz35 : sizeT Go.Proofs.Try.prog 35 = Option.some 1 := by kernel_rfl
@[simp] theorem t_by35 : bytesT Go.Proofs.Try.prog 35 = Option.some 8 := by kernel_rfl
@[simp] theorem t_ag35 : isAggT Go.Proofs.Try.prog 35 = Option.some Bool.false := by kernel_rfl
@[simp] theorem t_za35 : zeroA Go.Proofs.Try.prog 35 = Option.some AV.nilfunc := by kernel_rfl
@[simp] theorem t_sz36 : sizeT Go.Proofs.Try.prog 36 = Option.some 1 := by kernel_rfl
@[simp] theorem t_by36 : bytesT Go.Proofs.Try.prog 36 = Option.some 8 := by kernel_rfl
@[simp] theorem t_ag36 : isAggT Go.Proofs.Try.prog 36 = Option.some Bool.false := by kernel_rfl
@[simp] theorem t_za36 : zeroA Go.Proofs.Try.prog 36 = Option.some AV.nilfunc := by kernel_rfl
@[simp] theorem t_sz37 : sizeT Go.Proofs.Try.prog 37 = Option.some 1 := by kernel_rfl
@[simp] theorem t_by37 : bytesT Go.Proofs.Try.prog 37 = Option.some 8 := by kernel_rfl
@[simp] theorem t_ag37 : isAggT Go.Proofs.Try.prog 37 = Option.some Bool.false := by kernel_rfl
@[simp] theorem t_za37 : zeroA Go.Proofs.Try.prog 37 = Option.some AV.nilfunc := by kernel_rfl
@[simp] theorem t_sz38 : sizeT Go.Proofs.Try.prog 38 = Option.some 1 := by kernel_rfl
@[simp] theorem t_by38 : bytesT Go.Proofs.Try.prog 38 = Option.some 8 := by kernel_rfl
@[simp] theorem t_ag38 : isAggT Go.Proofs.Try.prog 38 = Option.some Bool.false := by kernel_rfl
@[simp] theorem t_za38 : zeroA Go.Proofs.Try.prog 38 = Option.some AV.nilfunc := by kernel_rfl
@[simp] theorem t_sz39 : sizeT Go.Proofs.Try.prog 39 = Option.some 1 := by kernel_rfl
@[simp] theorem t_by39 : bytesT Go.Proofs.Try.prog 39 = Option.some 8 := by kernel_rfl
@[simp] theorem t_ag39 : isAggT Go.Proofs.Try.prog 39 = Option.some Bool.false := by kernel_rfl
@[simp] theorem t_za39 : zeroA Go.Proofs.Try.prog 39 = Option.some AV.nilfunc := by kernel_rfl
@[simp] theorem t_sz40 : sizeT Go.Proofs.Try.prog 40 = Option.some 1 := by kernel_rfl
@[simp] theorem t_by40 : bytesT Go.Proofs.Try.prog 40 = Option.some 8 := by kernel_rfl
@[simp] theorem t_ag40 : isAggT Go.Proofs.Try.prog 40 = Option.some Bool.false := by kernel_rfl
@[simp] theorem t_za40 : zeroA Go.Proofs.Try.prog 40 = Option.some AV.nilfunc := by kernel_rfl
@[simp] theorem t_sz41 : sizeT Go.Proofs.Try.prog 41 = Option.some 1 := by kernel_rfl
@[simp] theorem t_by41 : bytesT Go.Proofs.Try.prog 41 = Option.some 8 := by kernel_rfl
@[simp] theorem t_ag41 : isAggT Go.Proofs.Try.prog 41 = Option.some Bool.false := by kernel_rfl
@[simp] theorem t_za41 : zeroA Go.Proofs.Try.prog 41 = Option.some AV.nilfunc := by kernel_rfl
@[simp] theorem t_sz42 : sizeT Go.Proofs.Try.prog 42 = Option.some 2 := by kernel_rfl
@[simp] theorem t_by42 : bytesT Go.Proofs.Try.prog 42 = Option.some 32 := by kernel_rfl
@[simp] theorem t_ag42 : isAggT Go.Proofs.Try.prog 42 = Option.some Bool.true := by kernel_rfl
@[simp] theorem t_za42 : zeroA Go.Proofs.Try.prog 42 = Option.some (AV.agg [AV.int IntKind.i64 (0), AV.list [] Tok.full]) := by kernel_rfl
@[simp] theorem t_sz43 : sizeT Go.Proofs.Try.prog 43 = Option.some 2 := by kernel_rfl
@[simp] theorem t_by43 : bytesT Go.Proofs.Try.prog 43 = Option.some 32 := by kernel_rfl
@[simp] theorem t_ag43 : isAggT Go.Proofs.Try.prog 43 = Option.some Bool.true := by kernel_rfl
@[simp] theorem t_za43 : zeroA Go.Proofs.Try.prog 43 = Option.some (AV.agg [AV.int IntKind.i64 (0), AV.list [] Tok.full]) := by kernel_rfl
@[simp] theorem t_sz44 : sizeT Go.Proofs.Try.prog 44 = Option.some 5 := by kernel_rfl
@[simp] theorem t_by44 : bytesT Go.Proofs.Try.prog 44 = Option.some 56 := by kernel_rfl
@[simp] theorem t_ag44 : isAggT Go.Proofs.Try.prog 44 = Option.some Bool.true := by kernel_rfl
@[simp] theorem t_za44 : zeroA Go.Proofs.Try.prog 44 = Option.some (AV.agg [AV.int IntKind.i64 (0), AV.int IntKind.i64 (0), AV.int IntKind.i64 (0), AV.int IntKind.i64 (0), AV.list [] Tok.full]) := by kernel_rfl
@[simp] theorem t_sz45 : sizeT Go.Proofs.Try.prog 45 = Option.some 5 := by kernel_rfl
@[simp] theorem t_by45 : bytesT Go.Proofs.Try.prog 45 = Option.some 56 := by kernel_rfl
@[simp] theorem t_ag45 : isAggT Go.Proofs.Try.prog 45 = Option.some Bool.true := by kernel_rfl
@[simp] theorem t_za45 : zeroA Go.Proofs.Try.prog 45 = Option.some (AV.agg [AV.int IntKind.i64 (0), AV.int IntKind.i64 (0), AV.int IntKind.i64 (0), AV.int IntKind.i64 (0), AV.list [] Tok.full]) := by kernel_rfl
@[simp] theorem t_sz46 : sizeT Go.Proofs.Try.prog 46 = Option.some 1 := by kernel_rfl
@[simp] theorem t_by46 : bytesT Go.Proofs.Try.prog 46 = Option.some 8 := by kernel_rfl
@[simp] theorem t_ag46 : isAggT Go.Proofs.Try.prog 46 = Option.some Bool.false := by kernel_rfl
@[simp] theorem t_za46 : zeroA Go.Proofs.Try.prog 46 = Option.some AV.nilfunc := by kernel_rfl
@[simp] theorem t_sz47 : sizeT Go.Proofs.Try.prog 47 = Option.some 1 := by kernel_rfl
@[simp] theorem t_by47 : bytesT Go.Proofs.Try.prog 47 = Option.some 8 := by kernel_rfl
@[simp] theorem t_ag47 : isAggT Go.Proofs.Try.prog 47 = Option.some Bool.false := by kernel_rfl
@[simp] theorem t_za47 : zeroA Go.Proofs.Try.prog 47 = Option.some AV.nilfunc := by kernel_rfl
@[simp] theorem t_sz48 : sizeT Go.Proofs.Try.prog 48 = Option.some 1 := by kernel_rfl
@[simp] theorem t_by48 : bytesT Go.Proofs.Try.prog 48 = Option.some 8 := by kernel_rfl
@[simp] theorem t_ag48 : isAggT Go.Proofs.Try.prog 48 = Option.some Bool.false := by kernel_rfl
@[simp] theorem t_za48 : zeroA Go.Proofs.Try.prog 48 = Option.some AV.nilfunc := by kernel_rfl
@[simp] theorem t_sz49 : sizeT Go.Proofs.Try.prog 49 = Option.some 1 := by kernel_rfl
@[simp] theorem t_by49 : bytesT Go.Proofs.Try.prog 49 = Option.some 8 := by kernel_rfl
@[simp] theorem t_ag49 : isAggT Go.Proofs.Try.prog 49 = Option.some Bool.false := by kernel_rfl
@[simp] theorem t_za49 : zeroA Go.Proofs.Try.prog 49 = Option.some AV.nilfunc := by kernel_rfl
@[simp] theorem t_sz50 : sizeT Go.Proofs.Try.prog 50 = Option.some 1 := by kernel_rfl
@[simp] theorem t_by50 : bytesT Go.Proofs.Try.prog 50 = Option.some 8 := by kernel_rfl
@[simp] theorem t_ag50 : isAggT Go.Proofs.Try.prog 50 = Option.some Bool.false := by kernel_rfl
@[simp] theorem t_za50 : zeroA Go.Proofs.Try.prog 50 = Option.some AV.nilfunc := by kernel_rfl
@[simp] theorem t_sz51 : sizeT Go.Proofs.Try.prog 51 = Option.some 1 := by kernel_rfl
@[simp] theorem t_by51 : bytesT Go.Proofs.Try.prog 51 = Option.some 8 := by kernel_rfl
@[simp] theorem t_ag51 : isAggT Go.Proofs.Try.prog 51 = Option.some Bool.false := by kernel_rfl
@[simp] theorem t_za51 : zeroA Go.Proofs.Try.prog 51 = Option.some AV.nilfunc := by kernel_rfl
@[simp] theorem t_sz52 : sizeT Go.Proofs.Try.prog 52 = Option.some 5 := by kernel_rfl
@[simp] theorem t_by52 : bytesT Go.Proofs.Try.prog 52 = Option.some 56 := by kernel_rfl
@[simp] theorem t_ag52 : isAggT Go.Proofs.Try.prog 52 = Option.some Bool.true := by kernel_rfl
@[simp] theorem t_za52 : zeroA Go.Proofs.Try.prog 52 = Option.some (AV.agg [AV.int IntKind.i64 (0), AV.int IntKind.i64 (0), AV.int IntKind.i64 (0), AV.int IntKind.i64 (0), AV.list [] Tok.full]) := by kernel_rfl
@[simp] theorem t_sz53 : sizeT Go.Proofs.Try.prog 53 = Option.some 1 := by kernel_rfl
@[simp] theorem t_by53 : bytesT Go.Proofs.Try.prog 53 = Option.some 8 := by kernel_rfl
@[simp] theorem t_ag53 : isAggT Go.Proofs.Try.prog 53 = Option.some Bool.false := by kernel_rfl
@[simp] theorem t_za53 : zeroA Go.Proofs.Try.prog 53 = Option.some AV.nilmap := by kernel_rfl
@[simp] theorem t_sz54 : sizeT Go.Proofs.Try.prog 54 = Option.some 1 := by kernel_rfl
@[simp] theorem t_by54 : bytesT Go.Proofs.Try.prog 54 = Option.some 8 := by kernel_rfl
@[simp] theorem t_ag54 : isAggT Go.Proofs.Try.prog 54 = Option.some Bool.false := by kernel_rfl
@[simp] theorem t_za54 : zeroA Go.Proofs.Try.prog 54 = Option.some AV.nilmap := by kernel_rfl
@[simp] theorem t_sz55 : sizeT Go.Proofs.Try.prog 55 = Option.some 2 := by kernel_rfl
@[simp] theorem t_by55 : bytesT Go.Proofs.Try.prog 55 = Option.some 16 := by kernel_rfl
@[simp] theorem t_ag55 : isAggT Go.Proofs.Try.prog 55 = Option.some Bool.true := by kernel_rfl
@[simp] theorem t_za55 : zeroA Go.Proofs.Try.prog 55 = Option.some (AV.agg [AV.nilmap, AV.nilmap]) := by kernel_rfl
@[simp] theorem t_sz56 : sizeT Go.Proofs.Try.prog 56 = Option.some 2 := by kernel_rfl
@[simp] theorem t_by56 : bytesT Go.Proofs.Try.prog 56 = Option.some 16 := by kernel_rfl
@[simp] theorem t_ag56 : isAggT Go.Proofs.Try.prog 56 = Option.some Bool.true := by kernel_rfl
@[simp] theorem t_za56 : zeroA Go.Proofs.Try.prog 56 = Option.some (AV.agg [AV.nilmap, AV.nilmap]) := by kernel_rfl
@[simp] theorem t_sz57 : sizeT Go.Proofs.Try.prog 57 = Option.some 1 := by kernel_rfl
@[simp] theorem t_by57 : bytesT Go.Proofs.Try.prog 57 = Option.some 0 := by kernel_rfl
@[simp] theorem t_ag57 : isAggT Go.Proofs.Try.prog 57 = Option.some Bool.false := by kernel_rfl
@[simp] theorem t_sz58 : sizeT Go.Proofs.Try.prog 58 = Option.some 1 := by kernel_rfl
@[simp] theorem t_by58 : bytesT Go.Proofs.Try.prog 58 = Option.some 8 := by kernel_rfl
@[simp] theorem t_ag58 : isAggT Go.Proofs.Try.prog 58 = Option.some Bool.false := by kernel_rfl
@[simp] theorem t_za58 : zeroA Go.Proofs.Try.prog 58 = Option.some AV.nilfunc := by kernel_rfl
@[simp] theorem t_sz59 : sizeT Go.Proofs.Try.prog 59 = Option.some 1 := by kernel_rfl
@[simp] theorem t_by59 : bytesT Go.Proofs.Try.prog 59 = Option.some 8 := by kernel_rfl
@[simp] theorem t_ag59 : isAggT Go.Proofs.Try.prog 59 = Option.some Bool.false := by kernel_rfl
@[simp] theorem t_za59 : zeroA Go.Proofs.Try.prog 59 = Option.some AV.nilptr := by kernel_rfl
@[simp] theorem t_sz60 : sizeT Go.Proofs.Try.prog 60 = Option.some 1 := by kernel_rfl
@[simp] theorem t_by60 : bytesT Go.Proofs.Try.prog 60 = Option.some 8 := by kernel_rfl
@[simp] theorem t_ag60 : isAggT Go.Proofs.Try.prog 60 = Option.some Bool.false := by kernel_rfl
@[simp] theorem t_za60 : zeroA Go.Proofs.Try.prog 60 = Option.some AV.nilmap := by kernel_rfl
@[simp] theorem t_sz61 : sizeT Go.Proofs.Try.prog 61 = Option.some 5 := by kernel_rfl
@[simp] theorem t_by61 : bytesT Go.Proofs.Try.prog 61 = Option.some 72 := by kernel_rfl
@[simp] theorem t_ag61 : isAggT Go.Proofs.Try.prog 61 = Option.some Bool.true := by kernel_rfl
@[simp] theorem t_za61 : zeroA Go.Proofs.Try.prog 61 = Option.some (AV.agg [AV.nilmap, AV.nilmap, AV.nilmap, AV.list [] Tok.full, AV.list [] Tok.full]) := by kernel_rfl
@[simp] theorem t_sz62 : sizeT Go.Proofs.Try.prog 62 = Option.some 5 := by kernel_rfl
@[simp] theorem t_by62 : bytesT Go.Proofs.Try.prog 62 = Option.some 72 := by kernel_rfl
@[simp] theorem t_ag62 : isAggT Go.Proofs.Try.prog 62 = Option.some Bool.true := by kernel_rfl
@[simp] theorem t_za62 : zeroA Go.Proofs.Try.prog 62 = Option.some (AV.agg [AV.nilmap, AV.nilmap, AV.nilmap, AV.list [] Tok.full, AV.list [] Tok.full]) := by kernel_rfl
@[simp] theorem t_sz63 : sizeT Go.Proofs.Try.prog 63 = Option.some 1 := by kernel_rfl
@[simp] theorem t_by63 : bytesT Go.Proofs.Try.prog 63 = Option.some 8 := by kernel_rfl
@[simp] theorem t_ag63 : isAggT Go.Proofs.Try.prog 63 = Option.some Bool.false := by kernel_rfl
@[simp] theorem t_za63 : zeroA Go.Proofs.Try.prog 63 = Option.some AV.nilfunc := by kernel_rfl
@[simp] theorem t_sz64 : sizeT Go.Proofs.Try.prog 64 = Option.some 1 := by kernel_rfl
@[simp] theorem t_by64 : bytesT Go.Proofs.Try.prog 64 = Option.some 8 := by kernel_rfl
@[simp] theorem t_ag64 : isAggT Go.Proofs.Try.prog 64 = Option.some Bool.false := by kernel_rfl
@[simp] theorem t_za64 : zeroA Go.Proofs.Try.prog 64 = Option.some AV.nilptr := by kernel_rfl
@[simp] theorem t_sz65 : sizeT Go.Proofs.Try.prog 65 = Option.some 1 := by kernel_rfl
@[simp] theorem t_by65 : bytesT Go.Proofs.Try.prog 65 = Option.some 8 := by kernel_rfl
@[simp] theorem t_ag65 : isAggT Go.Proofs.Try.prog 65 = Option.some Bool.false := by kernel_rfl
@[simp] theorem t_za65 : zeroA Go.Proofs.Try.prog 65 = Option.some AV.nilfunc := by kernel_rfl
@[simp] theorem t_sz66 : sizeT Go.Proofs.Try.prog 66 = Option.some 1 := by kernel_rfl
@[simp] theorem t_by66 : bytesT Go.Proofs.Try.prog 66 = Option.some 8 := by kernel_rfl
@[simp] theorem t_ag66 : isAggT Go.Proofs.Try.prog 66 = Option.some Bool.false := by kernel_rfl
@[simp] theorem t_za66 : zeroA Go.Proofs.Try.prog 66 = Option.some AV.nilfunc := by kernel_rfl
@[simp] theorem t_sz67 : sizeT Go.Proofs.Try.prog 67 = Option.some 1 := by kernel_rfl
@[simp] theorem t_by67 : bytesT Go.Proofs.Try.prog 67 = Option.some 8 := by kernel_rfl
@[simp] theorem t_ag67 : isAggT Go.Proofs.Try.prog 67 = Option.some Bool.false := by kernel_rfl
@[simp] theorem t_za67 : zeroA Go.Proofs.Try.prog 67 = Option.some AV.nilfunc := by kernel_rfl
@[simp] theorem t_sz68 : sizeT Go.Proofs.Try.prog 68 = Option.some 1 := by kernel_rfl
@[simp] theorem t_by68 : bytesT Go.Proofs.Try.prog 68 = Option.some 8 := by kernel_rfl
@[simp] theorem t_ag68 : isAggT Go.Proofs.Try.prog 68 = Option.some Bool.false := by kernel_rfl
@[simp] theorem t_za68 : zeroA Go.Proofs.Try.prog 68 = Option.some AV.nilfunc := by kernel_rfl
@[simp] theorem t_sz69 : sizeT Go.Proofs.Try.prog 69 = Option.some 1 := by kernel_rfl
@[simp] theorem t_by69 : bytesT Go.Proofs.Try.prog 69 = Option.some 8 := by kernel_rfl
@[simp] theorem t_ag69 : isAggT Go.Proofs.Try.prog 69 = Option.some Bool.false := by kernel_rfl
@[simp] theorem t_za69 : zeroA Go.Proofs.Try.prog 69 = Option.some AV.nilfunc := by kernel_rfl
@[simp] theorem t_sz70 : sizeT Go.Proofs.Try.prog 70 = Option.some 1 := by kernel_rfl
@[simp] theorem t_by70 : bytesT Go.Proofs.Try.prog 70 = Option.some 8 := by kernel_rfl
@[simp] theorem t_ag70 : isAggT Go.Proofs.Try.prog 70 = Option.some Bool.false := by kernel_rfl
@[simp] theorem t_za70 : zeroA Go.Proofs.Try.prog 70 = Option.some AV.nilfunc := by kernel_rfl
@[simp] theorem t_sz71 : sizeT Go.Proofs.Try.prog 71 = Option.some 1 := by kernel_rfl
@[simp] theorem t_by71 : bytesT Go.Proofs.Try.prog 71 = Option.some 8 := by kernel_rfl
@[simp] theorem t_ag71 : isAggT Go.Proofs.Try.prog 71 = Option.some Bool.false := by kernel_rfl
@[simp] theorem t_za71 : zeroA Go.Proofs.Try.prog 71 = Option.some AV.nilfunc := by kernel_rfl
@[simp] theorem t_sz72 : sizeT Go.Proofs.Try.prog 72 = Option.some 1 := by kernel_rfl
@[simp] theorem t_by72 : bytesT Go.Proofs.Try.prog 72 = Option.some 8 := by kernel_rfl
@[simp] theorem t_ag72 : isAggT Go.Proofs.Try.prog 72 = Option.some Bool.false := by kernel_rfl
@[simp] theorem t_za72 : zeroA Go.Proofs.Try.prog 72 = Option.some AV.nilfunc := by kernel_rfl
@[simp] theorem t_sz73 : sizeT Go.Proofs.Try.prog 73 = Option.some 1 := by kernel_rfl
@[simp] theorem t_by73 : bytesT Go.Proofs.Try.prog 73 = Option.some 8 := by kernel_rfl
@[simp] theorem t_ag73 : isAggT Go.Proofs.Try.prog 73 = Option.some Bool.false := by kernel_rfl
@[simp] theorem t_za73 : zeroA Go.Proofs.Try.prog 73 = Option.some AV.nilfunc := by kernel_rfl
@[simp] theorem t_sz74 : sizeT Go.Proofs.Try.prog 74 = Option.some 1 := by kernel_rfl
@[simp] theorem t_by74 : bytesT Go.Proofs.Try.prog 74 = Option.some 8 := by kernel_rfl
@[simp] theorem t_ag74 : isAggT Go.Proofs.Try.prog 74 = Option.some Bool.false := by kernel_rfl
@[simp] theorem t_za74 : zeroA Go.Proofs.Try.prog 74 = Option.some AV.nilfunc := by kernel_rfl
@[simp] theorem t_sz75 : sizeT Go.Proofs.Try.prog 75 = Option.some 1 := by kernel_rfl
@[simp] theorem t_by75 : bytesT Go.Proofs.Try.prog 75 = Option.some 8 := by kernel_rfl
@[simp] theorem t_ag75 : isAggT Go.Proofs.Try.prog 75 = Option.some Bool.false := by kernel_rfl
@[simp] theorem t_za75 : zeroA Go.Proofs.Try.prog 75 = Option.some AV.nilfunc := by kernel_rfl
@[simp] theorem t_sz76 : sizeT Go.Proofs.Try.prog 76 = Option.some 1 := by kernel_rfl
@[simp] theorem t_by76 : bytesT Go.Proofs.Try.prog 76 = Option.some 8 := by kernel_rfl
@[simp] theorem t_ag76 : isAggT Go.Proofs.Try.prog 76 = Option.some Bool.false := by kernel_rfl
@[simp] theorem t_za76 : zeroA Go.Proofs.Try.prog 76 = Option.some AV.nilfunc := by kernel_rfl
@[simp] theorem t_sz77 : sizeT Go.Proofs.Try.prog 77 = Option.some 1 := by kernel_rfl
@[simp] theorem t_by77 : bytesT Go.Proofs.Try.prog 77 = Option.some 8 := by kernel_rfl
@[simp] theorem t_ag77 : isAggT Go.Proofs.Try.prog 77 = Option.some Bool.false := by kernel_rfl
@[simp] theorem t_za77 : zeroA Go.Proofs.Try.prog 77 = Option.some AV.nilfunc := by kernel_rfl
@[simp] theorem t_sz78 : sizeT Go.Proofs.Try.prog 78 = Option.some 1 := by kernel_rfl
@[simp] theorem t_by78 : bytesT Go.Proofs.Try.prog 78 = Option.some 8 := by kernel_rfl
@[simp] theorem t_ag78 : isAggT Go.Proofs.Try.prog 78 = Option.some Bool.false := by kernel_rfl
@[simp] theorem t_za78 : zeroA Go.Proofs.Try.prog 78 = Option.some AV.nilfunc := by kernel_rfl
@[simp] theorem t_sz79 : sizeT Go.Proofs.Try.prog 79 = Option.some 1 := by kernel_rfl
@[simp] theorem t_by79 : bytesT Go.Proofs.Try.prog 79 = Option.some 8 := by kernel_rfl
@[simp] theorem t_ag79 : isAggT Go.Proofs.Try.prog 79 = Option.some Bool.false := by kernel_rfl
@[simp] theorem t_za79 : zeroA Go.Proofs.Try.prog 79 = Option.some AV.nilfunc := by kernel_rfl
@[simp] theorem t_sz80 : sizeT Go.Proofs.Try.prog 80 = Option.some 1 := by kernel_rfl
@[simp] theorem t_by80 : bytesT Go.Proofs.Try.prog 80 = Option.some 8 := by kernel_rfl
@[simp] theorem t_ag80 : isAggT Go.Proofs.Try.prog 80 = Option.some Bool.false := by kernel_rfl
@[simp] theorem t_za80 : zeroA Go.Proofs.Try.prog 80 = Option.some AV.nilfunc := by kernel_rfl
@[simp] theorem t_sz81 : sizeT Go.Proofs.Try.prog 81 = Option.some 1 := by kernel_rfl
@[simp] theorem t_by81 : bytesT Go.Proofs.Try.prog 81 = Option.some 8 := by kernel_rfl
@[simp] theorem t_ag81 : isAggT Go.Proofs.Try.prog 81 = Option.some Bool.false := by kernel_rfl
@[simp] theorem t_za81 : zeroA Go.Proofs.Try.prog 81 = Option.some AV.nilfunc := by kernel_rfl
@[simp] theorem t_sz82 : sizeT Go.Proofs.Try.prog 82 = Option.some 1 := by kernel_rfl
@[simp] theorem t_by82 : bytesT Go.Proofs.Try.prog 82 = Option.some 8 := by kernel_rfl
@[simp] theorem t_ag82 : isAggT Go.Proofs.Try.prog 82 = Option.some Bool.false := by kernel_rfl
@[simp] theorem t_za82 : zeroA Go.Proofs.Try.prog 82 = Option.some AV.nilmap := by kernel_rfl
@[simp] theorem t_sz83 : sizeT Go.Proofs.Try.prog 83 = Option.some 1 := by kernel_rfl
@[simp] theorem t_by83 : bytesT Go.Proofs.Try.prog 83 = Option.some 8 := by kernel_rfl
@[simp] theorem t_ag83 : isAggT Go.Proofs.Try.prog 83 = Option.some Bool.false := by kernel_rfl
@[simp] theorem t_za83 : zeroA Go.Proofs.Try.prog 83 = Option.some AV.nilfunc := by kernel_rfl
@[simp] theorem t_sz84 : sizeT Go.Proofs.Try.prog 84 = Option.some 1 := by kernel_rfl
@[simp] theorem t_by84 : bytesT Go.Proofs.Try.prog 84 = Option.some 8 := by kernel_rfl
@[simp] theorem t_ag84 : isAggT Go.Proofs.Try.prog 84 = Option.some Bool.false := by kernel_rfl
@[simp] theorem t_za84 : zeroA Go.Proofs.Try.prog 84 = Option.some AV.nilfunc := by kernel_rfl
@[simp] theorem t_sz85 : sizeT Go.Proofs.Try.prog 85 = Option.some 1 := by kernel_rfl
@[simp] theorem t_by85 : bytesT Go.Proofs.Try.prog 85 = Option.some 0 := by kernel_rfl
@[simp] theorem t_ag85 : isAggT Go.Proofs.Try.prog 85 = Option.some Bool.false := by kernel_rfl
@[simp] theorem t_sz86 : sizeT Go.Proofs.Try.prog 86 = Option.some 4 := by kernel_rfl
@[simp] theorem t_by86 : bytesT Go.Proofs.Try.prog 86 = Option.some 32 := by kernel_rfl
@[simp] theorem t_ag86 : isAggT Go.Proofs.Try.prog 86 = Option.some Bool.true := by kernel_rfl
@[simp] theorem t_za86 : zeroA Go.Proofs.Try.prog 86 = Option.some (AV.agg [AV.int IntKind.i64 (0), AV.int IntKind.i64 (0), AV.int IntKind.i64 (0), AV.int IntKind.i64 (0)]) := by kernel_rfl
@[simp] theorem t_sz87 : sizeT Go.Proofs.Try.prog 87 = Option.some 4 := by kernel_rfl
@[simp] theorem t_by87 : bytesT Go.Proofs.Try.prog 87 = Option.some 32 := by kernel_rfl
@[simp] theorem t_ag87 : isAggT Go.Proofs.Try.prog 87 = Option.some Bool.true := by kernel_rfl
@[simp] theorem t_za87 : zeroA Go.Proofs.Try.prog 87 = Option.some (AV.agg [AV.int IntKind.i64 (0), AV.int IntKind.i64 (0), AV.int IntKind.i64 (0), AV.int IntKind.i64 (0)]) := by kernel_rfl
@[simp] theorem t_sz88 : sizeT Go.Proofs.Try.prog 88 = Option.some 1 := by kernel_rfl
@[simp] theorem t_by88 : bytesT Go.Proofs.Try.prog 88 = Option.some 8 := by kernel_rfl
@[simp] theorem t_ag88 : isAggT Go.Proofs.Try.prog 88 = Option.some Bool.false := by kernel_rfl
@[simp] theorem t_za88 : zeroA Go.Proofs.Try.prog 88 = Option.some AV.nilfunc := by kernel_rfl
@[simp] theorem t_sz89 : sizeT Go.Proofs.Try.prog 89 = Option.some 1 := by kernel_rfl
@[simp] theorem t_by89 : bytesT Go.Proofs.Try.prog 89 = Option.some 24 := by kernel_rfl
@[simp] theorem t_ag89 : isAggT Go.Proofs.Try.prog 89 = Option.some Bool.false := by kernel_rfl
@[simp] theorem t_za89 : zeroA Go.Proofs.Try.prog 89 = Option.some (AV.list [] Tok.full) := by kernel_rfl
@[simp] theorem t_sz90 : sizeT Go.Proofs.Try.prog 90 = Option.some 1 := by kernel_rfl
@[simp] theorem t_by90 : bytesT Go.Proofs.Try.prog 90 = Option.some 8 := by kernel_rfl
@[simp] theorem t_ag90 : isAggT Go.Proofs.Try.prog 90 = Option.some Bool.false := by kernel_rfl
@[simp] theorem t_za90 : zeroA Go.Proofs.Try.prog 90 = Option.some AV.nilptr := by kernel_rfl
@[simp] theorem t_sz91 : sizeT Go.Proofs.Try.prog 91 = Option.some 3 := by kernel_rfl
@[simp] theorem t_by91 : bytesT Go.Proofs.Try.prog 91 = Option.some 24 := by kernel_rfl
@[simp] theorem t_ag91 : isAggT Go.Proofs.Try.prog 91 = Option.some Bool.true := by kernel_rfl
@[simp] theorem t_za91 : zeroA Go.Proofs.Try.prog 91 = Option.some (AV.agg [AV.int IntKind.i64 (0), AV.int IntKind.i64 (0), AV.bool Bool.false]) := by kernel_rfl
@[simp] theorem t_sz92 : sizeT Go.Proofs.Try.prog 92 = Option.some 3 := by kernel_rfl
@[simp] theorem t_by92 : bytesT Go.Proofs.Try.prog 92 = Option.some 24 := by kernel_rfl
@[simp] theorem t_ag92 : isAggT Go.Proofs.Try.prog 92 = Option.some Bool.true := by kernel_rfl
@[simp] theorem t_za92 : zeroA Go.Proofs.Try.prog 92 = Option.some (AV.agg [AV.int IntKind.i64 (0), AV.int IntKind.i64 (0), AV.bool Bool.false]) := by kernel_rfl
@[simp] theorem t_sz93 : sizeT Go.Proofs.Try.prog 93 = Option.some 1 := by kernel_rfl
@[simp] theorem t_by93 : bytesT Go.Proofs.Try.prog 93 = Option.some 8 := by kernel_rfl
@[simp] theorem t_ag93 : isAggT Go.Proofs.Try.prog 93 = Option.some Bool.false := by kernel_rfl
@[simp] theorem t_za93 : zeroA Go.Proofs.Try.prog 93 = Option.some AV.nilfunc := by kernel_rfl
@[simp] theorem t_sz94 : sizeT Go.Proofs.Try.prog 94 = Option.some 1 := by kernel_rfl
@[simp] theorem t_by94 : bytesT Go.Proofs.Try.prog 94 = Option.some 8 := by kernel_rfl
@[simp] theorem t_ag94 : isAggT Go.Proofs.Try.prog 94 = Option.some Bool.false := by kernel_rfl
@[simp] theorem t_za94 : zeroA Go.Proofs.Try.prog 94 = Option.some AV.nilfunc := by kernel_rfl
@[simp] theorem t_sz95 : sizeT Go.Proofs.Try.prog 95 = Option.some 1 := by kernel_rfl
@[simp] theorem t_by95 : bytesT Go.Proofs.Try.prog 95 = Option.some 8 := by kernel_rfl
@[simp] theorem t_ag95 : isAggT Go.Proofs.Try.prog 95 = Option.some Bool.false := by kernel_rfl
@[simp] theorem t_za95 : zeroA Go.Proofs.Try.prog 95 = Option.some (AV.int IntKind.u64 (0)) := by kernel_rfl
@[simp] theorem t_sz96 : sizeT Go.Proofs.Try.prog 96 = Option.some 1 := by kernel_rfl
@[simp] theorem t_by96 : bytesT Go.Proofs.Try.prog 96 = Option.some 8 := by kernel_rfl
@[simp] theorem t_ag96 : isAggT Go.Proofs.Try.prog 96 = Option.some Bool.false := by kernel_rfl
@[simp] theorem t_za96 : zeroA Go.Proofs.Try.prog 96 = Option.some AV.nilfunc := by kernel_rfl
@[simp] theorem t_sz97 : sizeT Go.Proofs.Try.prog 97 = Option.some 1 := by kernel_rfl
@[simp] theorem t_by97 : bytesT Go.Proofs.Try.prog 97 = Option.some 8 := by kernel_rfl
@[simp] theorem t_ag97 : isAggT Go.Proofs.Try.prog 97 = Option.some Bool.false := by kernel_rfl
@[simp] theorem t_za97 : zeroA Go.Proofs.Try.prog 97 = Option.some AV.nilfunc := by kernel_rfl
@[simp] theorem t_sz98 : sizeT Go.Proofs.Try.prog 98 = Option.some 1 := by kernel_rfl
@[simp] theorem t_by98 : bytesT Go.Proofs.Try.prog 98 = Option.some 8 := by kernel_rfl
@[simp] theorem t_ag98 : isAggT Go.Proofs.Try.prog 98 = Option.some Bool.false := by kernel_rfl
@[simp] theorem t_za98 : zeroA Go.Proofs.Try.prog 98 = Option.some AV.nilfunc := by kernel_rfl
@[simp] theorem t_sz99 : sizeT Go.Proofs.Try.prog 99 = Option.some 1 := by kernel_rfl
@[simp] theorem t_by99 : bytesT Go.Proofs.Try.prog 99 = Option.some 8 := by kernel_rfl
@[simp] theorem t_ag99 : isAggT Go.Proofs.Try.prog 99 = Option.some Bool.false := by kernel_rfl
@[simp] theorem t_za99 : zeroA Go.Proofs.Try.prog 99 = Option.some AV.nilfunc := by kernel_rfl
@[simp] theorem t_sz100 : sizeT Go.Proofs.Try.prog 100 = Option.some 1 := by kernel_rfl
@[simp] theorem t_by100 : bytesT Go.Proofs.Try.prog 100 = Option.some 8 := by kernel_rfl
@[simp] theorem t_ag100 : isAggT Go.Proofs.Try.prog 100 = Option.some Bool.false := by kernel_rfl
@[simp] theorem t_za100 : zeroA Go.Proofs.Try.prog 100 = Option.some AV.nilfunc := by kernel_rfl
@[simp] theorem t_sz101 : sizeT Go.Proofs.Try.prog 101 = Option.some 1 := by kernel_rfl
@[simp] theorem t_by101 : bytesT Go.Proofs.Try.prog 101 = Option.some 8 := by kernel_rfl
@[simp] theorem t_ag101 : isAggT Go.Proofs.Try.prog 101 = Option.some Bool.false := by kernel_rfl
@[simp] theorem t_za101 : zeroA Go.Proofs.Try.prog 101 = Option.some AV.nilfunc := by kernel_rfl
@[simp] theorem t_sz102 : sizeT Go.Proofs.Try.prog 102 = Option.some 1 := by kernel_rfl
@[simp] theorem t_by102 : bytesT Go.Proofs.Try.prog 102 = Option.some 8 := by kernel_rfl
@[simp] theorem t_ag102 : isAggT Go.Proofs.Try.prog 102 = Option.some Bool.false := by kernel_rfl
@[simp] theorem t_za102 : zeroA Go.Proofs.Try.prog 102 = Option.some AV.nilfunc := by kernel_rfl
@[simp] theorem t_sz103 : sizeT Go.Proofs.Try.prog 103 = Option.some 1 := by kernel_rfl
@[simp] theorem t_by103 : bytesT Go.Proofs.Try.prog 103 = Option.some 8 := by kernel_rfl
@[simp] theorem t_ag103 : isAggT Go.Proofs.Try.prog 103 = Option.some Bool.false := by kernel_rfl
@[simp] theorem t_za103 : zeroA Go.Proofs.Try.prog 103 = Option.some AV.nilfunc := by kernel_rfl
@[simp] theorem t_sz104 : sizeT Go.Proofs.Try.prog 104 = Option.some 1 := by kernel_rfl
@[simp] theorem t_by104 : bytesT Go.Proofs.Try.prog 104 = Option.some 8 := by kernel_rfl
@[simp] theorem t_ag104 : isAggT Go.Proofs.Try.prog 104 = Option.some Bool.false := by kernel_rfl
@[simp] theorem t_za104 : zeroA Go.Proofs.Try.prog 104 = Option.some AV.nilfunc := by kernel_rfl
@[simp] theorem t_sz105 : sizeT Go.Proofs.Try.prog 105 = Option.some 1 := by kernel_rfl
@[simp] theorem t_by105 : bytesT Go.Proofs.Try.prog 105 = Option.some 0 := by kernel_rfl
@[simp] theorem t_ag105 : isAggT Go.Proofs.Try.prog 105 = Option.some Bool.false := by kernel_rfl
@[simp] theorem t_za105 : zeroA Go.Proofs.Try.prog 105 = Option.some (AV.tuple [AV.bool Bool.false, AV.bool Bool.false]) := by kernel_rfl
@[simp] theorem t_sz106 : sizeT Go.Proofs.Try.prog 106 = Option.some 1 := by kernel_rfl
@[simp] theorem t_by106 : bytesT Go.Proofs.Try.prog 106 = Option.some 8 := by kernel_rfl
@[simp] theorem t_ag106 : isAggT Go.Proofs.Try.prog 106 = Option.some Bool.false := by kernel_rfl
@[simp] theorem t_za106 : zeroA Go.Proofs.Try.prog 106 = Option.some AV.nilfunc := by kernel_rfl
@[simp] theorem t_sz107 : sizeT Go.Proofs.Try.prog 107 = Option.some 1 := by kernel_rfl
@[simp] theorem t_by107 : bytesT Go.Proofs.Try.prog 107 = Option.some 8 := by kernel_rfl
@[simp] theorem t_ag107 : isAggT Go.Proofs.Try.prog 107 = Option.some Bool.false := by kernel_rfl
@[simp] theorem t_za107 : zeroA Go.Proofs.Try.prog 107 = Option.some AV.nilfunc := by kernel_rfl
@[simp] theorem t_sz108 : sizeT Go.Proofs.Try.prog 108 = Option.some 1 := by kernel_rfl
@[simp] theorem t_by108 : bytesT Go.Proofs.Try.prog 108 = Option.some 8 := by kernel_rfl
@[simp] theorem t_ag108 : isAggT Go.Proofs.Try.prog 108 = Option.some Bool.false := by kernel_rfl
@[simp] theorem t_za108 : zeroA Go.Proofs.Try.prog 108 = Option.some (AV.int IntKind.i64 (0)) := by kernel_rfl
@[simp] theorem t_sz109 : sizeT Go.Proofs.Try.prog 109 = Option.some 1 := by kernel_rfl
@[simp] theorem t_by109 : bytesT Go.Proofs.Try.prog 109 = Option.some 0 := by kernel_rfl
@[simp] theorem t_ag109 : isAggT Go.Proofs.Try.prog 109 = Option.some Bool.false := by kernel_rfl
@[simp] theorem t_za109 : zeroA Go.Proofs.Try.prog 109 = Option.some (AV.tuple [AV.int IntKind.i64 (0), AV.int IntKind.i64 (0)]) := by kernel_rfl
@[simp] theorem t_sz110 : sizeT Go.Proofs.Try.prog 110 = Option.some 1 := by kernel_rfl
@[simp] theorem t_by110 : bytesT Go.Proofs.Try.prog 110 = Option.some 8 := by kernel_rfl
@[simp] theorem t_ag110 : isAggT Go.Proofs.Try.prog 110 = Option.some Bool.false := by kernel_rfl
@[simp] theorem t_za110 : zeroA Go.Proofs.Try.prog 110 = Option.some AV.nilfunc := by kernel_rfl
@[simp] theorem t_sz111 : sizeT Go.Proofs.Try.prog 111 = Option.some 1 := by kernel_rfl
@[simp] theorem t_by111 : bytesT Go.Proofs.Try.prog 111 = Option.some 8 := by kernel_rfl
@[simp] theorem t_ag111 : isAggT Go.Proofs.Try.prog 111 = Option.some Bool.false := by kernel_rfl
@[simp] theorem t_za111 : zeroA Go.Proofs.Try.prog 111 = Option.some AV.nilfunc := by kernel_rfl
@[simp] theorem t_sz112 : sizeT Go.Proofs.Try.prog 112 = Option.some 1 := by kernel_rfl
@[simp] theorem t_by112 : bytesT Go.Proofs.Try.prog 112 = Option.some 8 := by kernel_rfl
@[simp] theorem t_ag112 : isAggT Go.Proofs.Try.prog 112 = Option.some Bool.false := by kernel_rfl
@[simp] theorem t_za112 : zeroA Go.Proofs.Try.prog 112 = Option.some AV.nilfunc := by kernel_rfl
@[simp] theorem t_sz113 : sizeT Go.Proofs.Try.prog 113 = Option.some 1 := by kernel_rfl
@[simp] theorem t_by113 : bytesT Go.Proofs.Try.prog 113 = Option.some 0 := by kernel_rfl
@[simp] theorem t_ag113 : isAggT Go.Proofs.Try.prog 113 = Option.some Bool.false := by kernel_rfl
@[simp] theorem t_za113 : zeroA Go.Proofs.Try.prog 113 = Option.some (AV.tuple [AV.int IntKind.i64 (0), AV.bool Bool.false]) := by kernel_rfl
@[simp] theorem t_sz114 : sizeT Go.Proofs.Try.prog 114 = Option.some 1 := by kernel_rfl
@[simp] theorem t_by114 : bytesT Go.Proofs.Try.prog 114 = Option.some 8 := by kernel_rfl
@[simp] theorem t_ag114 : isAggT Go.Proofs.Try.prog 114 = Option.some Bool.false := by kernel_rfl
@[simp] theorem t_za114 : zeroA Go.Proofs.Try.prog 114 = Option.some AV.nilfunc := by kernel_rfl
@[simp] theorem t_sz115 : sizeT Go.Proofs.Try.prog 115 = Option.some 1 := by kernel_rfl
@[simp] theorem t_by115 : bytesT Go.Proofs.Try.prog 115 = Option.some 8 := by kernel_rfl
@[simp] theorem t_ag115 : isAggT Go.Proofs.Try.prog 115 = Option.some Bool.false := by kernel_rfl
@[simp] theorem t_za115 : zeroA Go.Proofs.Try.prog 115 = Option.some AV.nilfunc := by kernel_rfl
@[simp] theorem t_sz116 : sizeT Go.Proofs.Try.prog 116 = Option.some 1 := by kernel_rfl
@[simp] theorem t_by116 : bytesT Go.Proofs.Try.prog 116 = Option.some 4 := by kernel_rfl
@[simp] theorem t_ag116 : isAggT Go.Proofs.Try.prog 116 = Option.some Bool.false := by kernel_rfl
@[simp] theorem t_za116 : zeroA Go.Proofs.Try.prog 116 = Option.some (AV.int IntKind.u32 (0)) := by kernel_rfl
@[simp] theorem t_sz117 : sizeT Go.Proofs.Try.prog 117 = Option.some 1 := by kernel_rfl
@[simp] theorem t_by117 : bytesT Go.Proofs.Try.prog 117 = Option.some 8 := by kernel_rfl
@[simp] theorem t_ag117 : isAggT Go.Proofs.Try.prog 117 = Option.some Bool.false := by kernel_rfl
@[simp] theorem t_za117 : zeroA Go.Proofs.Try.prog 117 = Option.some AV.nilfunc := by kernel_rfl
@[simp] theorem t_sz118 : sizeT Go.Proofs.Try.prog 118 = Option.some 1 := by kernel_rfl
@[simp] theorem t_by118 : bytesT Go.Proofs.Try.prog 118 = Option.some 8 := by kernel_rfl
@[simp] theorem t_ag118 : isAggT Go.Proofs.Try.prog 118 = Option.some Bool.false := by kernel_rfl
@[simp] theorem t_za118 : zeroA Go.Proofs.Try.prog 118 = Option.some (AV.int IntKind.u64 (0)) := by kernel_rfl
@[simp] theorem t_sz119 : sizeT Go.Proofs.Try.prog 119 = Option.some 1 := by kernel_rfl
@[simp] theorem t_by119 : bytesT Go.Proofs.Try.prog 119 = Option.some 8 := by kernel_rfl
@[simp] theorem t_ag119 : isAggT Go.Proofs.Try.prog 119 = Option.some Bool.false := by kernel_rfl
@[simp] theorem t_za119 : zeroA Go.Proofs.Try.prog 119 = Option.some AV.nilfunc := by kernel_rfl
@[simp] theorem t_sz120 : sizeT Go.Proofs.Try.prog 120 = Option.some 1 := by kernel_rfl
@[simp] theorem t_by120 : bytesT Go.Proofs.Try.prog 120 = Option.some 8 := by kernel_rfl
@[simp] theorem t_ag120 : isAggT Go.Proofs.Try.prog 120 = Option.some Bool.false := by kernel_rfl
@[simp] theorem t_za120 : zeroA Go.Proofs.Try.prog 120 = Option.some AV.nilfunc := by kernel_rfl
@[simp] theorem t_sz121 : sizeT Go.Proofs.Try.prog 121 = Option.some 1 := by kernel_rfl
@[simp] theorem t_by121 : bytesT Go.Proofs.Try.prog 121 = Option.some 24 := by kernel_rfl
@[simp] theorem t_ag121 : isAggT Go.Proofs.Try.prog 121 = Option.some Bool.false := by kernel_rfl
@[simp] theorem t_za121 : zeroA Go.Proofs.Try.prog 121 = Option.some (AV.list [] Tok.full) := by kernel_rfl
@[simp] theorem t_sz122 : sizeT Go.Proofs.Try.prog 122 = Option.some 1 := by kernel_rfl
@[simp] theorem t_by122 : bytesT Go.Proofs.Try.prog 122 = Option.some 8 := by kernel_rfl
@[simp] theorem t_ag122 : isAggT Go.Proofs.Try.prog 122 = Option.some Bool.false := by kernel_rfl
@[simp] theorem t_za122 : zeroA Go.Proofs.Try.prog 122 = Option.some AV.nilfunc := by kernel_rfl
@[simp] theorem t_sz123 : sizeT Go.Proofs.Try.prog 123 = Option.some 1 := by kernel_rfl
@[simp] theorem t_by123 : bytesT Go.Proofs.Try.prog 123 = Option.some 8 := by kernel_rfl
@[simp] theorem t_ag123 : isAggT Go.Proofs.Try.prog 123 = Option.some Bool.false := by kernel_rfl
@[simp] theorem t_za123 : zeroA Go.Proofs.Try.prog 123 = Option.some (AV.int IntKind.u64 (0)) := by kernel_rfl
@[simp] theorem t_sz124 : sizeT Go.Proofs.Try.prog 124 = Option.some 1 := by kernel_rfl
@[simp] theorem t_by124 : bytesT Go.Proofs.Try.prog 124 = Option.some 8 := by kernel_rfl
@[simp] theorem t_ag124 : isAggT Go.Proofs.Try.prog 124 = Option.some Bool.false := by kernel_rfl
@[simp] theorem t_za124 : zeroA Go.Proofs.Try.prog 124 = Option.some AV.nilfunc := by kernel_rfl
@[simp] theorem t_sz125 : sizeT Go.Proofs.Try.prog 125 = Option.some 1 := by kernel_rfl
@[simp] theorem t_by125 : bytesT Go.Proofs.Try.prog 125 = Option.some 8 := by kernel_rfl
@[simp] theorem t_ag125 : isAggT Go.Proofs.Try.prog 125 = Option.some Bool.false := by kernel_rfl
@[simp] theorem t_za125 : zeroA Go.Proofs.Try.prog 125 = Option.some AV.nilfunc := by kernel_rfl
@[simp] theorem t_sz126 : sizeT Go.Proofs.Try.prog 126 = Option.some 1 := by kernel_rfl
@[simp] theorem t_by126 : bytesT Go.Proofs.Try.prog 126 = Option.some 8 := by kernel_rfl
@[simp] theorem t_ag126 : isAggT Go.Proofs.Try.prog 126 = Option.some Bool.false := by kernel_rfl
@[simp] theorem t_za126 : zeroA Go.Proofs.Try.prog 126 = Option.some AV.nilfunc := by kernel_rfl
@[simp] theorem t_sz127 : sizeT Go.Proofs.Try.prog 127 = Option.some 1 := by kernel_rfl
@[simp] theorem t_by127 : bytesT Go.Proofs.Try.prog 127 = Option.some 8 := by kernel_rfl
@[simp] theorem t_ag127 : isAggT Go.Proofs.Try.prog 127 = Option.some Bool.false := by kernel_rfl
@[simp] theorem t_za127 : zeroA Go.Proofs.Try.prog 127 = Option.some AV.nilptr := by kernel_rfl
@[simp] theorem t_sz128 : sizeT Go.Proofs.Try.prog 128 = Option.some 1 := by kernel_rfl
@[simp] theorem t_by128 : bytesT Go.Proofs.Try.prog 128 = Option.some 8 := by kernel_rfl
@[simp] theorem t_ag128 : isAggT Go.Proofs.Try.prog 128 = Option.some Bool.false := by kernel_rfl
@[simp] theorem t_za128 : zeroA Go.Proofs.Try.prog 128 = Option.some AV.nilfunc := by kernel_rfl
@[simp] theorem t_sz129 : sizeT Go.Proofs.Try.prog 129 = Option.some 1 := by kernel_rfl
@[simp] theorem t_by129 : bytesT Go.Proofs.Try.prog 129 = Option.some 8 := by kernel_rfl
@[simp] theorem t_ag129 : isAggT Go.Proofs.Try.prog 129 = Option.some Bool.false := by kernel_rfl
@[simp] theorem t_za129 : zeroA Go.Proofs.Try.prog 129 = Option.some AV.nilfunc := by kernel_rfl
@[simp] theorem t_sz130 : sizeT Go.Proofs.Try.prog 130 = Option.some 1 := by kernel_rfl
@[simp] theorem t_by130 : bytesT Go.Proofs.Try.prog 130 = Option.some 8 := by kernel_rfl
@[simp] theorem t_ag130 : isAggT Go.Proofs.Try.prog 130 = Option.some Bool.false := by kernel_rfl
@[simp] theorem t_za130 : zeroA Go.Proofs.Try.prog 130 = Option.some AV.nilfunc := by kernel_rfl
@[simp] theorem t_sz131 : sizeT Go.Proofs.Try.prog 131 = Option.some 1 := by kernel_rfl
@[simp] theorem t_by131 : bytesT Go.Proofs.Try.prog 131 = Option.some 8 := by kernel_rfl
@[simp] theorem t_ag131 : isAggT Go.Proofs.Try.prog 131 = Option.some Bool.false := by kernel_rfl
@[simp] theorem t_za131 : zeroA Go.Proofs.Try.prog 131 = Option.some AV.nilfunc := by kernel_rfl
@[simp] theorem t_sz132 : sizeT Go.Proofs.Try.prog 132 = Option.some 1 := by kernel_rfl
@[simp] theorem t_by132 : bytesT Go.Proofs.Try.prog 132 = Option.some 8 := by kernel_rfl
@[simp] theorem t_ag132 : isAggT Go.Proofs.Try.prog 132 = Option.some Bool.false := by kernel_rfl
@[simp] theorem t_za132 : zeroA Go.Proofs.Try.prog 132 = Option.some AV.nilfunc := by kernel_rfl
@[simp] theorem t_sz133 : sizeT Go.Proofs.Try.prog 133 = Option.some 1 := by kernel_rfl
@[simp] theorem t_by133 : bytesT Go.Proofs.Try.prog 133 = Option.some 8 := by kernel_rfl
@[simp] theorem t_ag133 : isAggT Go.Proofs.Try.prog 133 = Option.some Bool.false := by kernel_rfl
@[simp] theorem t_za133 : zeroA Go.Proofs.Try.prog 133 = Option.some AV.nilfunc := by kernel_rfl
@[simp] theorem t_sz134 : sizeT Go.Proofs.Try.prog 134 = Option.some 1 := by kernel_rfl
@[simp] theorem t_by134 : bytesT Go.Proofs.Try.prog 134 = Option.some 8 := by kernel_rfl
@[simp] theorem t_ag134 : isAggT Go.Proofs.Try.prog 134 = Option.some Bool.false := by kernel_rfl
@[simp] theorem t_za134 : zeroA Go.Proofs.Try.prog 134 = Option.some AV.nilptr := by kernel_rfl
@[simp] theorem t_sz135 : sizeT Go.Proofs.Try.prog 135 = Option.some 1 := by kernel_rfl
@[simp] theorem t_by135 : bytesT Go.Proofs.Try.prog 135 = Option.some 0 := by kernel_rfl
@[simp] theorem t_ag135 : isAggT Go.Proofs.Try.prog 135 = Option.some Bool.false := by kernel_rfl
@[simp] theorem t_za135 : zeroA Go.Proofs.Try.prog 135 = Option.some (AV.tuple [AV.int IntKind.i64 (0), AV.int IntKind.i64 (0)]) := by kernel_rfl
@[simp] theorem t_sz136 : sizeT Go.Proofs.Try.prog 136 = Option.some 1 := by kernel_rfl
@[simp] theorem t_by136 : bytesT Go.Proofs.Try.prog 136 = Option.some 8 := by kernel_rfl
@[simp] theorem t_ag136 : isAggT Go.Proofs.Try.prog 136 = Option.some Bool.false := by kernel_rfl
@[simp] theorem t_za136 : zeroA Go.Proofs.Try.prog 136 = Option.some AV.nilfunc := by kernel_rfl
@[simp] theorem t_sz137 : sizeT Go.Proofs.Try.prog 137 = Option.some 1 := by kernel_rfl
@[simp] theorem t_by137 : bytesT Go.Proofs.Try.prog 137 = Option.some 8 := by kernel_rfl
@[simp] theorem t_ag137 : isAggT Go.Proofs.Try.prog 137 = Option.some Bool.false := by kernel_rfl
@[simp] theorem t_za137 : zeroA Go.Proofs.Try.prog 137 = Option.some AV.nilfunc := by kernel_rfl
@[simp] theorem t_sz138 : sizeT Go.Proofs.Try.prog 138 = Option.some 1 := by kernel_rfl
@[simp] theorem t_by138 : bytesT Go.Proofs.Try.prog 138 = Option.some 8 := by kernel_rfl
@[simp] theorem t_ag138 : isAggT Go.Proofs.Try.prog 138 = Option.some Bool.false := by kernel_rfl
@[simp] theorem t_za138 : zeroA Go.Proofs.Try.prog 138 = Option.some AV.nilfunc := by kernel_rfl
@[simp] theorem t_sz139 : sizeT Go.Proofs.Try.prog 139 = Option.some 1 := by kernel_rfl
@[simp] theorem t_by139 : bytesT Go.Proofs.Try.prog 139 = Option.some 8 := by kernel_rfl
@[simp] theorem t_ag139 : isAggT Go.Proofs.Try.prog 139 = Option.some Bool.false := by kernel_rfl
@[simp] theorem t_za139 : zeroA Go.Proofs.Try.prog 139 = Option.some AV.nilfunc := by kernel_rfl
@[simp] theorem t_sz140 : sizeT Go.Proofs.Try.prog 140 = Option.some 1 := by kernel_rfl
@[simp] theorem t_by140 : bytesT Go.Proofs.Try.prog 140 = Option.some 8 := by kernel_rfl
@[simp] theorem t_ag140 : isAggT Go.Proofs.Try.prog 140 = Option.some Bool.false := by kernel_rfl
@[simp] theorem t_za140 : zeroA Go.Proofs.Try.prog 140 = Option.some AV.nilfunc := by kernel_rfl
@[simp] theorem t_sz141 : sizeT Go.Proofs.Try.prog 141 = Option.some 4 := by kernel_rfl
@[simp] theorem t_by141 : bytesT Go.Proofs.Try.prog 141 = Option.some 40 := by kernel_rfl
@[simp] theorem t_ag141 : isAggT Go.Proofs.Try.prog 141 = Option.some Bool.true := by kernel_rfl
@[simp] theorem t_za141 : zeroA Go.Proofs.Try.prog 141 = Option.some (AV.agg [AV.nilptr, AV.nilptr, AV.nilptr, AV.str []]) := by kernel_rfl
@[simp] theorem t_sz142 : sizeT Go.Proofs.Try.prog 142 = Option.some 4 := by kernel_rfl
@[simp] theorem t_by142 : bytesT Go.Proofs.Try.prog 142 = Option.some 40 := by kernel_rfl
@[simp] theorem t_ag142 : isAggT Go.Proofs.Try.prog 142 = Option.some Bool.true := by kernel_rfl
@[simp] theorem t_za142 : zeroA Go.Proofs.Try.prog 142 = Option.some (AV.agg [AV.nilptr, AV.nilptr, AV.nilptr, AV.str []]) := by kernel_rfl
@[simp] theorem t_sz143 : sizeT Go.Proofs.Try.prog 143 = Option.some 0 := by kernel_rfl
@[simp] theorem t_by143 : bytesT Go.Proofs.Try.prog 143 = Option.some 0 := by kernel_rfl
@[simp] theorem t_ag143 : isAggT Go.Proofs.Try.prog 143 = Option.some Bool.true := by kernel_rfl
@[simp] theorem t_za143 : zeroA Go.Proofs.Try.prog 143 = Option.some (AV.agg []) := by kernel_rfl
@[simp] theorem t_sz144 : sizeT Go.Proofs.Try.prog 144 = Option.some 0 := by kernel_rfl
@[simp] theorem t_by144 : bytesT Go.Proofs.Try.prog 144 = Option.some 0 := by kernel_rfl
@[simp] theorem t_ag144 : isAggT Go.Proofs.Try.prog 144 = Option.some Bool.true := by kernel_rfl
@[simp] theorem t_za144 : zeroA Go.Proofs.Try.prog 144 = Option.some (AV.agg []) := by kernel_rfl
@[simp] theorem t_sz145 : sizeT Go.Proofs.Try.prog 145 = Option.some 0 := by kernel_rfl
@[simp] theorem t_by145 : bytesT Go.Proofs.Try.prog 145 = Option.some 0 := by kernel_rfl
@[simp] theorem t_ag145 : isAggT Go.Proofs.Try.prog 145 = Option.some Bool.true := by kernel_rfl
@[simp] theorem t_za145 : zeroA Go.Proofs.Try.prog 145 = Option.some (AV.agg []) := by kernel_rfl
@[simp] theorem t_sz146 : sizeT Go.Proofs.Try.prog 146 = Option.some 1 := by kernel_rfl
@[simp] theorem t_by146 : bytesT Go.Proofs.Try.prog 146 = Option.some 8 := by kernel_rfl
@[simp] theorem t_ag146 : isAggT Go.Proofs.Try.prog 146 = Option.some Bool.false := by kernel_rfl
@[simp] theorem t_za146 : zeroA Go.Proofs.Try.prog 146 = Option.some AV.nilfunc := by kernel_rfl
@[simp] theorem t_sz147 : sizeT Go.Proofs.Try.prog 147 = Option.some 1 := by kernel_rfl
@[simp] theorem t_by147 : bytesT Go.Proofs.Try.prog 147 = Option.some 1 := by kernel_rfl
@[simp] theorem t_ag147 : isAggT Go.Proofs.Try.prog 147 = Option.some Bool.false := by kernel_rfl
@[simp] theorem t_za147 : zeroA Go.Proofs.Try.prog 147 = Option.some (AV.int IntKind.u8 (0)) := by kernel_rfl
@[simp] theorem t_sz148 : sizeT Go.Proofs.Try.prog 148 = Option.some 1 := by kernel_rfl
@[simp] theorem t_by148 : bytesT Go.Proofs.Try.prog 148 = Option.some 1 := by kernel_rfl
@[simp] theorem t_ag148 : isAggT Go.Proofs.Try.prog 148 = Option.some Bool.false := by kernel_rfl
@[simp] theorem t_za148 : zeroA Go.Proofs.Try.prog 148 = Option.some (AV.int IntKind.u8 (0)) := by kernel_rfl
@[simp] theorem t_sz149 : sizeT Go.Proofs.Try.prog 149 = Option.some 1 := by kernel_rfl
@[simp] theorem t_by149 : bytesT Go.Proofs.Try.prog 149 = Option.some 8 := by kernel_rfl
@[simp] theorem t_ag149 : isAggT Go.Proofs.Try.prog 149 = Option.some Bool.false := by kernel_rfl
@[simp] theorem t_za149 : zeroA Go.Proofs.Try.prog 149 = Option.some AV.nilfunc := by kernel_rfl
@[simp] theorem t_sz150 : sizeT Go.Proofs.Try.prog 150 = Option.some 1 := by kernel_rfl
@[simp] theorem t_by150 : bytesT Go.Proofs.Try.prog 150 = Option.some 8 := by kernel_rfl
@[simp] theorem t_ag150 : isAggT Go.Proofs.Try.prog 150 = Option.some Bool.false := by kernel_rfl
@[simp] theorem t_za150 : zeroA Go.Proofs.Try.prog 150 = Option.some AV.nilptr := by kernel_rfl
@[simp] theorem t_sz151 : sizeT Go.Proofs.Try.prog 151 = Option.some 1 := by kernel_rfl
@[simp] theorem t_by151 : bytesT Go.Proofs.Try.prog 151 = Option.some 4 := by kernel_rfl
@[simp] theorem t_ag151 : isAggT Go.Proofs.Try.prog 151 = Option.some Bool.false := by kernel_rfl
@[simp] theorem t_za151 : zeroA Go.Proofs.Try.prog 151 = Option.some (AV.int IntKind.i32 (0)) := by kernel_rfl
@[simp] theorem t_sz152 : sizeT Go.Proofs.Try.prog 152 = Option.some 1 := by kernel_rfl
@[simp] theorem t_by152 : bytesT Go.Proofs.Try.prog 152 = Option.some 4 := by kernel_rfl
@[simp] theorem t_ag152 : isAggT Go.Proofs.Try.prog 152 = Option.some Bool.false := by kernel_rfl
@[simp] theorem t_za152 : zeroA Go.Proofs.Try.prog 152 = Option.some (AV.int IntKind.i32 (0)) := by kernel_rfl
@[simp] theorem t_sz153 : sizeT Go.Proofs.Try.prog 153 = Option.some 11 := by kernel_rfl
@[simp] theorem t_by153 : bytesT Go.Proofs.Try.prog 153 = Option.some 48 := by kernel_rfl
@[simp] theorem t_ag153 : isAggT Go.Proofs.Try.prog 153 = Option.some Bool.true := by kernel_rfl
@[simp] theorem t_za153 : zeroA Go.Proofs.Try.prog 153 = Option.some (AV.agg [AV.int IntKind.u64 (0), AV.int IntKind.u64 (0), AV.int IntKind.u32 (0), AV.int IntKind.u8 (0), AV.int IntKind.u8 (0), AV.int IntKind.u8 (0), AV.int IntKind.u8 (0), AV.nilfunc, AV.nilptr, AV.int IntKind.i32 (0), AV.int IntKind.i32 (0)]) := by kernel_rfl
@[simp] theorem t_sz154 : sizeT Go.Proofs.Try.prog 154 = Option.some 11 := by kernel_rfl
@[simp] theorem t_by154 : bytesT Go.Proofs.Try.prog 154 = Option.some 48 := by kernel_rfl
@[simp] theorem t_ag154 : isAggT Go.Proofs.Try.prog 154 = Option.some Bool.true := by kernel_rfl
@[simp] theorem t_za154 : zeroA Go.Proofs.Try.prog 154 = Option.some (AV.agg [AV.int IntKind.u64 (0), AV.int IntKind.u64 (0), AV.int IntKind.u32 (0), AV.int IntKind.u8 (0), AV.int IntKind.u8 (0), AV.int IntKind.u8 (0), AV.int IntKind.u8 (0), AV.nilfunc, AV.nilptr, AV.int IntKind.i32 (0), AV.int IntKind.i32 (0)]) := by kernel_rfl
@[simp] theorem t_sz155 : sizeT Go.Proofs.Try.prog 155 = Option.some 1 := by kernel_rfl
@[simp] theorem t_by155 : bytesT Go.Proofs.Try.prog 155 = Option.some 8 := by kernel_rfl
@[simp] theorem t_ag155 : isAggT Go.Proofs.Try.prog 155 = Option.some Bool.false := by kernel_rfl
@[simp] theorem t_za155 : zeroA Go.Proofs.Try.prog 155 = Option.some AV.nilptr := by kernel_rfl
@[simp] theorem t_pl7 : placesOf Go.Proofs.Try.prog 7 = some fun i => ([(0, 1), (1, 1), (2, 1), (3, 1)] : List (Nat × Nat)).toArray[i]? := by kernel_rfl
@[simp] theorem t_pl8 : placesOf Go.Proofs.Try.prog 8 = some fun i => ([(0, 1), (1, 1), (2, 1), (3, 1)] : List (Nat × Nat)).toArray[i]? := by kernel_rfl
@[simp] theorem t_pl13 : placesOf Go.Proofs.Try.prog 13 = some fun i => ([(0, 1), (1, 1)] : List (Nat × Nat)).toArray[i]? := by kernel_rfl
@[simp] theorem t_pl14 : placesOf Go.Proofs.Try.prog 14 = some fun i => ([(0, 1), (1, 1)] : List (Nat × Nat)).toArray[i]? := by kernel_rfl
@[simp] theorem t_pl18 : placesOf Go.Proofs.Try.prog 18 = some fun i => ([(0, 1)] : List (Nat × Nat)).toArray[i]? := by kernel_rfl
@[simp] theorem t_pl19 : placesOf Go.Proofs.Try.prog 19 = some fun i => ([(0, 1)] : List (Nat × Nat)).toArray[i]? := by kernel_rfl
@[simp] theorem t_pl24 : placesOf Go.Proofs.Try.prog 24 = some fun i => ([(0, 1), (1, 1), (2, 1)] : List (Nat × Nat)).toArray[i]? := by kernel_rfl
@[simp] theorem t_pl25 : placesOf Go.Proofs.Try.prog 25 = some fun i => ([(0, 1), (1, 1), (2, 1)] : List (Nat × Nat)).toArray[i]? := by kernel_rfl
@[simp] theorem t_eg25 : Go.Proofs.Try.prog.eqGuardType Go.Proofs.Try.prog.depth 25 = false := by kernel_rfl
@[simp] theorem t_st25 : Go.Proofs.Try.prog.stoodInHeld 25 = false := by kernel_rfl
@[simp] theorem t_pl42 : placesOf Go.Proofs.Try.prog 42 = some fun i => ([(0, 1), (1, 1)] : List (Nat × Nat)).toArray[i]? := by kernel_rfl
@[simp] theorem t_pl43 : placesOf Go.Proofs.Try.prog 43 = some fun i => ([(0, 1), (1, 1)] : List (Nat × Nat)).toArray[i]? := by kernel_rfl
@[simp] theorem t_eg43 : Go.Proofs.Try.prog.eqGuardType Go.Proofs.Try.prog.depth 43 = false := by kernel_rfl
@[simp] theorem t_st43 : Go.Proofs.Try.prog.stoodInHeld 43 = false := by kernel_rfl
@[simp] theorem t_pl44 : placesOf Go.Proofs.Try.prog 44 = some fun i => ([(0, 3), (3, 2)] : List (Nat × Nat)).toArray[i]? := by kernel_rfl
@[simp] theorem t_pl45 : placesOf Go.Proofs.Try.prog 45 = some fun i => ([(0, 3), (3, 2)] : List (Nat × Nat)).toArray[i]? := by kernel_rfl
@[simp] theorem t_eg45 : Go.Proofs.Try.prog.eqGuardType Go.Proofs.Try.prog.depth 45 = false := by kernel_rfl
@[simp] theorem t_st45 : Go.Proofs.Try.prog.stoodInHeld 45 = false := by kernel_rfl
@[simp] theorem t_pl52 : placesOf Go.Proofs.Try.prog 52 = some fun i => ([(0, 3), (3, 2)] : List (Nat × Nat)).toArray[i]? := by kernel_rfl
@[simp] theorem t_eg52 : Go.Proofs.Try.prog.eqGuardType Go.Proofs.Try.prog.depth 52 = false := by kernel_rfl
@[simp] theorem t_st52 : Go.Proofs.Try.prog.stoodInHeld 52 = false := by kernel_rfl
@[simp] theorem t_pl55 : placesOf Go.Proofs.Try.prog 55 = some fun i => ([(0, 1), (1, 1)] : List (Nat × Nat)).toArray[i]? := by kernel_rfl
@[simp] theorem t_eg55 : Go.Proofs.Try.prog.eqGuardType Go.Proofs.Try.prog.depth 55 = false := by kernel_rfl
@[simp] theorem t_st55 : Go.Proofs.Try.prog.stoodInHeld 55 = false := by kernel_rfl
@[simp] theorem t_pl56 : placesOf Go.Proofs.Try.prog 56 = some fun i => ([(0, 1), (1, 1)] : List (Nat × Nat)).toArray[i]? := by kernel_rfl
@[simp] theorem t_eg56 : Go.Proofs.Try.prog.eqGuardType Go.Proofs.Try.prog.depth 56 = false := by kernel_rfl
@[simp] theorem t_st56 : Go.Proofs.Try.prog.stoodInHeld 56 = false := by kernel_rfl
@[simp] theorem t_pl61 : placesOf Go.Proofs.Try.prog 61 = some fun i => ([(0, 2), (2, 1), (3, 1), (4, 1)] : List (Nat × Nat)).toArray[i]? := by kernel_rfl
@[simp] theorem t_eg61 : Go.Proofs.Try.prog.eqGuardType Go.Proofs.Try.prog.depth 61 = false := by kernel_rfl
@[simp] theorem t_st61 : Go.Proofs.Try.prog.stoodInHeld 61 = false := by kernel_rfl
@[simp] theorem t_pl62 : placesOf Go.Proofs.Try.prog 62 = some fun i => ([(0, 2), (2, 1), (3, 1), (4, 1)] : List (Nat × Nat)).toArray[i]? := by kernel_rfl
@[simp] theorem t_eg62 : Go.Proofs.Try.prog.eqGuardType Go.Proofs.Try.prog.depth 62 = false := by kernel_rfl
@[simp] theorem t_st62 : Go.Proofs.Try.prog.stoodInHeld 62 = false := by kernel_rfl
@[simp] theorem t_pl86 : placesOf Go.Proofs.Try.prog 86 = some fun i => ([(0, 3), (3, 1)] : List (Nat × Nat)).toArray[i]? := by kernel_rfl
@[simp] theorem t_eg86 : Go.Proofs.Try.prog.eqGuardType Go.Proofs.Try.prog.depth 86 = false := by kernel_rfl
@[simp] theorem t_st86 : Go.Proofs.Try.prog.stoodInHeld 86 = false := by kernel_rfl
@[simp] theorem t_pl87 : placesOf Go.Proofs.Try.prog 87 = some fun i => ([(0, 3), (3, 1)] : List (Nat × Nat)).toArray[i]? := by kernel_rfl
@[simp] theorem t_eg87 : Go.Proofs.Try.prog.eqGuardType Go.Proofs.Try.prog.depth 87 = false := by kernel_rfl
@[simp] theorem t_st87 : Go.Proofs.Try.prog.stoodInHeld 87 = false := by kernel_rfl
@[simp] theorem t_pl91 : placesOf Go.Proofs.Try.prog 91 = some fun i => ([(0, 1), (1, 1), (2, 1)] : List (Nat × Nat)).toArray[i]? := by kernel_rfl
@[simp] theorem t_eg91 : Go.Proofs.Try.prog.eqGuardType Go.Proofs.Try.prog.depth 91 = false := by kernel_rfl
@[simp] theorem t_st91 : Go.Proofs.Try.prog.stoodInHeld 91 = false := by kernel_rfl
@[simp] theorem t_pl92 : placesOf Go.Proofs.Try.prog 92 = some fun i => ([(0, 1), (1, 1), (2, 1)] : List (Nat × Nat)).toArray[i]? := by kernel_rfl
@[simp] theorem t_eg92 : Go.Proofs.Try.prog.eqGuardType Go.Proofs.Try.prog.depth 92 = false := by kernel_rfl
@[simp] theorem t_st92 : Go.Proofs.Try.prog.stoodInHeld 92 = false := by kernel_rfl
@[simp] theorem t_pl141 : placesOf Go.Proofs.Try.prog 141 = some fun i => ([(0, 1), (1, 1), (2, 1), (3, 1)] : List (Nat × Nat)).toArray[i]? := by kernel_rfl
@[simp] theorem t_pl142 : placesOf Go.Proofs.Try.prog 142 = some fun i => ([(0, 1), (1, 1), (2, 1), (3, 1)] : List (Nat × Nat)).toArray[i]? := by kernel_rfl
@[simp] theorem t_pl143 : placesOf Go.Proofs.Try.prog 143 = some fun i => some (i * 1, 1) := by kernel_rfl
@[simp] theorem t_pl144 : placesOf Go.Proofs.Try.prog 144 = some fun i => ([(0, 0)] : List (Nat × Nat)).toArray[i]? := by kernel_rfl
@[simp] theorem t_pl145 : placesOf Go.Proofs.Try.prog 145 = some fun i => ([(0, 0)] : List (Nat × Nat)).toArray[i]? := by kernel_rfl
@[simp] theorem t_pl153 : placesOf Go.Proofs.Try.prog 153 = some fun i => ([(0, 1), (1, 1), (2, 1), (3, 1), (4, 1), (5, 1), (6, 1), (7, 1), (8, 1), (9, 1), (10, 1)] : List (Nat × Nat)).toArray[i]? := by kernel_rfl
@[simp] theorem t_pl154 : placesOf Go.Proofs.Try.prog 154 = some fun i => ([(0, 1), (1, 1), (2, 1), (3, 1), (4, 1), (5, 1), (6, 1), (7, 1), (8, 1), (9, 1), (10, 1)] : List (Nat × Nat)).toArray[i]? := by kernel_rfl
@[simp] theorem t_me59_syndic_graph_close : methT Go.Proofs.Try.prog 59 "syndic/graph.close" = some 53 := by kernel_rfl
@[simp] theorem t_me59_syndic_graph_from : methT Go.Proofs.Try.prog 59 "syndic/graph.from" = some 30 := by kernel_rfl
@[simp] theorem t_me59_syndic_graph_meet : methT Go.Proofs.Try.prog 59 "syndic/graph.meet" = some 52 := by kernel_rfl
@[simp] theorem t_me134_Next : methT Go.Proofs.Try.prog 134 "Next" = some 88 := by kernel_rfl
attribute [simp] Go.Proofs.Try.underlying0 Go.Proofs.Try.underlying1 Go.Proofs.Try.underlying2 Go.Proofs.Try.underlying3 Go.Proofs.Try.underlying4 Go.Proofs.Try.underlying5 Go.Proofs.Try.underlying6 Go.Proofs.Try.underlying7 Go.Proofs.Try.underlying8 Go.Proofs.Try.underlying9 Go.Proofs.Try.underlying10 Go.Proofs.Try.underlying11 Go.Proofs.Try.underlying12 Go.Proofs.Try.underlying13 Go.Proofs.Try.underlying14 Go.Proofs.Try.underlying15 Go.Proofs.Try.underlying16 Go.Proofs.Try.underlying17 Go.Proofs.Try.underlying18 Go.Proofs.Try.underlying19 Go.Proofs.Try.underlying20 Go.Proofs.Try.underlying21 Go.Proofs.Try.underlying22 Go.Proofs.Try.underlying23 Go.Proofs.Try.underlying24 Go.Proofs.Try.underlying25 Go.Proofs.Try.underlying26 Go.Proofs.Try.underlying27 Go.Proofs.Try.underlying28 Go.Proofs.Try.underlying29 Go.Proofs.Try.underlying30 Go.Proofs.Try.underlying31 Go.Proofs.Try.underlying32 Go.Proofs.Try.underlying33 Go.Proofs.Try.underlying34 Go.Proofs.Try.underlying35 Go.Proofs.Try.underlying36 Go.Proofs.Try.underlying37 Go.Proofs.Try.underlying38 Go.Proofs.Try.underlying39 Go.Proofs.Try.underlying40 Go.Proofs.Try.underlying41 Go.Proofs.Try.underlying42 Go.Proofs.Try.underlying43 Go.Proofs.Try.underlying44 Go.Proofs.Try.underlying45 Go.Proofs.Try.underlying46 Go.Proofs.Try.underlying47 Go.Proofs.Try.underlying48 Go.Proofs.Try.underlying49 Go.Proofs.Try.underlying50 Go.Proofs.Try.underlying51 Go.Proofs.Try.underlying52 Go.Proofs.Try.underlying53 Go.Proofs.Try.underlying54 Go.Proofs.Try.underlying55 Go.Proofs.Try.underlying56 Go.Proofs.Try.underlying57 Go.Proofs.Try.underlying58 Go.Proofs.Try.underlying59 Go.Proofs.Try.underlying60 Go.Proofs.Try.underlying61 Go.Proofs.Try.underlying62 Go.Proofs.Try.underlying63 Go.Proofs.Try.underlying64 Go.Proofs.Try.underlying65 Go.Proofs.Try.underlying66 Go.Proofs.Try.underlying67 Go.Proofs.Try.underlying68 Go.Proofs.Try.underlying69 Go.Proofs.Try.underlying70 Go.Proofs.Try.underlying71 Go.Proofs.Try.underlying72 Go.Proofs.Try.underlying73 Go.Proofs.Try.underlying74 Go.Proofs.Try.underlying75 Go.Proofs.Try.underlying76 Go.Proofs.Try.underlying77 Go.Proofs.Try.underlying78 Go.Proofs.Try.underlying79 Go.Proofs.Try.underlying80 Go.Proofs.Try.underlying81 Go.Proofs.Try.underlying82 Go.Proofs.Try.underlying83 Go.Proofs.Try.underlying84 Go.Proofs.Try.underlying85 Go.Proofs.Try.underlying86 Go.Proofs.Try.underlying87 Go.Proofs.Try.underlying88 Go.Proofs.Try.underlying89 Go.Proofs.Try.underlying90 Go.Proofs.Try.underlying91 Go.Proofs.Try.underlying92 Go.Proofs.Try.underlying93 Go.Proofs.Try.underlying94 Go.Proofs.Try.underlying95 Go.Proofs.Try.underlying96 Go.Proofs.Try.underlying97 Go.Proofs.Try.underlying98 Go.Proofs.Try.underlying99 Go.Proofs.Try.underlying100 Go.Proofs.Try.underlying101 Go.Proofs.Try.underlying102 Go.Proofs.Try.underlying103 Go.Proofs.Try.underlying104 Go.Proofs.Try.underlying105 Go.Proofs.Try.underlying106 Go.Proofs.Try.underlying107 Go.Proofs.Try.underlying108 Go.Proofs.Try.underlying109 Go.Proofs.Try.underlying110 Go.Proofs.Try.underlying111 Go.Proofs.Try.underlying112 Go.Proofs.Try.underlying113 Go.Proofs.Try.underlying114 Go.Proofs.Try.underlying115 Go.Proofs.Try.underlying116 Go.Proofs.Try.underlying117 Go.Proofs.Try.underlying118 Go.Proofs.Try.underlying119 Go.Proofs.Try.underlying120 Go.Proofs.Try.underlying121 Go.Proofs.Try.underlying122 Go.Proofs.Try.underlying123 Go.Proofs.Try.underlying124 Go.Proofs.Try.underlying125 Go.Proofs.Try.underlying126 Go.Proofs.Try.underlying127 Go.Proofs.Try.underlying128 Go.Proofs.Try.underlying129 Go.Proofs.Try.underlying130 Go.Proofs.Try.underlying131 Go.Proofs.Try.underlying132 Go.Proofs.Try.underlying133 Go.Proofs.Try.underlying134 Go.Proofs.Try.underlying135 Go.Proofs.Try.underlying136 Go.Proofs.Try.underlying137 Go.Proofs.Try.underlying138 Go.Proofs.Try.underlying139 Go.Proofs.Try.underlying140 Go.Proofs.Try.underlying141 Go.Proofs.Try.underlying142 Go.Proofs.Try.underlying143 Go.Proofs.Try.underlying144 Go.Proofs.Try.underlying145 Go.Proofs.Try.underlying146 Go.Proofs.Try.underlying147 Go.Proofs.Try.underlying148 Go.Proofs.Try.underlying149 Go.Proofs.Try.underlying150 Go.Proofs.Try.underlying151 Go.Proofs.Try.underlying152 Go.Proofs.Try.underlying153 Go.Proofs.Try.underlying154 Go.Proofs.Try.underlying155
end Go.Proofs.Ytajgeofhlgoifaa.V
