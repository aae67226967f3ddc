/- The program's types, as the abstract states ask for them: written by program. -/
import Derived.Test.YtnocnhdhlibmpaaProg
import Derived.Test.YtnocnhdhlibmpaaV17
namespace Go.Proofs.Ytnocnhdhlibmpaa.V
open Go
set_option maxRecDepth 100000
@[simp] theorem t_sz0 : sizeT Go.Proofs.Try.prog 0 = Option.some 1 := by kernel_rfl
@[simp] theorem t_by0 : bytesT Go.Proofs.Try.prog 0 = Option.some 0 := by kernel_rfl
@[simp] theorem t_ag0 : isAggT Go.Proofs.Try.prog 0 = Option.some Bool.false := by kernel_rfl
@[simp] theorem t_za0 : zeroA Go.Proofs.Try.prog 0 = Option.some (AV.tuple []) := by kernel_rfl
@[simp] theorem t_sz1 : sizeT Go.Proofs.Try.prog 1 = Option.some 1 := by kernel_rfl
@[simp] theorem t_by1 : bytesT Go.Proofs.Try.prog 1 = Option.some 8 := by kernel_rfl
@[simp] theorem t_ag1 : isAggT Go.Proofs.Try.prog 1 = Option.some Bool.false := by kernel_rfl
@[simp] theorem t_za1 : zeroA Go.Proofs.Try.prog 1 = Option.some AV.nilfunc := by kernel_rfl
@[simp] theorem t_sz2 : sizeT Go.Proofs.Try.prog 2 = Option.some 1 := by kernel_rfl
@[simp] theorem t_by2 : bytesT Go.Proofs.Try.prog 2 = Option.some 8 := by kernel_rfl
@[simp] theorem t_ag2 : isAggT Go.Proofs.Try.prog 2 = Option.some Bool.false := by kernel_rfl
@[simp] theorem t_za2 : zeroA Go.Proofs.Try.prog 2 = Option.some (AV.int IntKind.i64 (0)) := by kernel_rfl
@[simp] theorem t_sz3 : sizeT Go.Proofs.Try.prog 3 = Option.some 1 := by kernel_rfl
@[simp] theorem t_by3 : bytesT Go.Proofs.Try.prog 3 = Option.some 8 := by kernel_rfl
@[simp] theorem t_ag3 : isAggT Go.Proofs.Try.prog 3 = Option.some Bool.false := by kernel_rfl
@[simp] theorem t_za3 : zeroA Go.Proofs.Try.prog 3 = Option.some (AV.int IntKind.i64 (0)) := by kernel_rfl
@[simp] theorem t_sz4 : sizeT Go.Proofs.Try.prog 4 = Option.some 1 := by kernel_rfl
@[simp] theorem t_by4 : bytesT Go.Proofs.Try.prog 4 = Option.some 1 := by kernel_rfl
@[simp] theorem t_ag4 : isAggT Go.Proofs.Try.prog 4 = Option.some Bool.false := by kernel_rfl
@[simp] theorem t_za4 : zeroA Go.Proofs.Try.prog 4 = Option.some (AV.bool Bool.false) := by kernel_rfl
@[simp] theorem t_sz5 : sizeT Go.Proofs.Try.prog 5 = Option.some 1 := by kernel_rfl
@[simp] theorem t_by5 : bytesT Go.Proofs.Try.prog 5 = Option.some 1 := by kernel_rfl
@[simp] theorem t_ag5 : isAggT Go.Proofs.Try.prog 5 = Option.some Bool.false := by kernel_rfl
@[simp] theorem t_za5 : zeroA Go.Proofs.Try.prog 5 = Option.some (AV.int IntKind.u8 (0)) := by kernel_rfl
@[simp] theorem t_sz6 : sizeT Go.Proofs.Try.prog 6 = Option.some 1 := by kernel_rfl
@[simp] theorem t_by6 : bytesT Go.Proofs.Try.prog 6 = Option.some 1 := by kernel_rfl
@[simp] theorem t_ag6 : isAggT Go.Proofs.Try.prog 6 = Option.some Bool.false := by kernel_rfl
@[simp] theorem t_za6 : zeroA Go.Proofs.Try.prog 6 = Option.some (AV.int IntKind.u8 (0)) := by kernel_rfl
@[simp] theorem t_sz7 : sizeT Go.Proofs.Try.prog 7 = Option.some 4 := by kernel_rfl
@[simp] theorem t_by7 : bytesT Go.Proofs.Try.prog 7 = Option.some 24 := by kernel_rfl
@[simp] theorem t_ag7 : isAggT Go.Proofs.Try.prog 7 = Option.some Bool.true := by kernel_rfl
@[simp] theorem t_za7 : zeroA Go.Proofs.Try.prog 7 = Option.some (AV.agg [AV.int IntKind.i64 (0), AV.int IntKind.i64 (0), AV.bool Bool.false, AV.int IntKind.u8 (0)]) := by kernel_rfl
@[simp] theorem t_sz8 : sizeT Go.Proofs.Try.prog 8 = Option.some 4 := by kernel_rfl
@[simp] theorem t_by8 : bytesT Go.Proofs.Try.prog 8 = Option.some 24 := by kernel_rfl
@[simp] theorem t_ag8 : isAggT Go.Proofs.Try.prog 8 = Option.some Bool.true := by kernel_rfl
@[simp] theorem t_za8 : zeroA Go.Proofs.Try.prog 8 = Option.some (AV.agg [AV.int IntKind.i64 (0), AV.int IntKind.i64 (0), AV.bool Bool.false, AV.int IntKind.u8 (0)]) := by kernel_rfl
@[simp] theorem t_sz9 : sizeT Go.Proofs.Try.prog 9 = Option.some 1 := by kernel_rfl
@[simp] theorem t_by9 : bytesT Go.Proofs.Try.prog 9 = Option.some 16 := by kernel_rfl
@[simp] theorem t_ag9 : isAggT Go.Proofs.Try.prog 9 = Option.some Bool.false := by kernel_rfl
@[simp] theorem t_za9 : zeroA Go.Proofs.Try.prog 9 = Option.some (AV.str []) := by kernel_rfl
@[simp] theorem t_sz10 : sizeT Go.Proofs.Try.prog 10 = Option.some 1 := by kernel_rfl
@[simp] theorem t_by10 : bytesT Go.Proofs.Try.prog 10 = Option.some 16 := by kernel_rfl
@[simp] theorem t_ag10 : isAggT Go.Proofs.Try.prog 10 = Option.some Bool.false := by kernel_rfl
@[simp] theorem t_za10 : zeroA Go.Proofs.Try.prog 10 = Option.some (AV.str []) := by kernel_rfl
@[simp] theorem t_sz11 : sizeT Go.Proofs.Try.prog 11 = Option.some 1 := by kernel_rfl
@[simp] theorem t_by11 : bytesT Go.Proofs.Try.prog 11 = Option.some 16 := by kernel_rfl
@[simp] theorem t_ag11 : isAggT Go.Proofs.Try.prog 11 = Option.some Bool.false := by kernel_rfl
@[simp] theorem t_za11 : zeroA Go.Proofs.Try.prog 11 = Option.some (AV.str []) := by kernel_rfl
@[simp] theorem t_sz12 : sizeT Go.Proofs.Try.prog 12 = Option.some 1 := by kernel_rfl
@[simp] theorem t_by12 : bytesT Go.Proofs.Try.prog 12 = Option.some 8 := by kernel_rfl
@[simp] theorem t_ag12 : isAggT Go.Proofs.Try.prog 12 = Option.some Bool.false := by kernel_rfl
@[simp] theorem t_za12 : zeroA Go.Proofs.Try.prog 12 = Option.some (AV.int IntKind.u64 (0)) := by kernel_rfl
@[simp] theorem t_sz13 : sizeT Go.Proofs.Try.prog 13 = Option.some 2 := by kernel_rfl
@[simp] theorem t_by13 : bytesT Go.Proofs.Try.prog 13 = Option.some 24 := by kernel_rfl
@[simp] theorem t_ag13 : isAggT Go.Proofs.Try.prog 13 = Option.some Bool.true := by kernel_rfl
@[simp] theorem t_za13 : zeroA Go.Proofs.Try.prog 13 = Option.some (AV.agg [AV.str [], AV.int IntKind.u64 (0)]) := by kernel_rfl
@[simp] theorem t_sz14 : sizeT Go.Proofs.Try.prog 14 = Option.some 2 := by kernel_rfl
@[simp] theorem t_by14 : bytesT Go.Proofs.Try.prog 14 = Option.some 24 := by kernel_rfl
@[simp] theorem t_ag14 : isAggT Go.Proofs.Try.prog 14 = Option.some Bool.true := by kernel_rfl
@[simp] theorem t_za14 : zeroA Go.Proofs.Try.prog 14 = Option.some (AV.agg [AV.str [], AV.int IntKind.u64 (0)]) := by kernel_rfl
@[simp] theorem t_sz15 : sizeT Go.Proofs.Try.prog 15 = Option.some 1 := by kernel_rfl
@[simp] theorem t_by15 : bytesT Go.Proofs.Try.prog 15 = Option.some 8 := by kernel_rfl
@[simp] theorem t_ag15 : isAggT Go.Proofs.Try.prog 15 = Option.some Bool.false := by kernel_rfl
@[simp] theorem t_za15 : zeroA Go.Proofs.Try.prog 15 = Option.some AV.nilptr := by kernel_rfl
@[simp] theorem t_sz16 : sizeT Go.Proofs.Try.prog 16 = Option.some 1 := by kernel_rfl
@[simp] theorem t_by16 : bytesT Go.Proofs.Try.prog 16 = Option.some 8 := by kernel_rfl
@[simp] theorem t_ag16 : isAggT Go.Proofs.Try.prog 16 = Option.some Bool.false := by kernel_rfl
@[simp] theorem t_za16 : zeroA Go.Proofs.Try.prog 16 = Option.some AV.nilptr := by kernel_rfl
@[simp] theorem t_sz17 : sizeT Go.Proofs.Try.prog 17 = Option.some 1 := by kernel_rfl
@[simp] theorem t_by17 : bytesT Go.Proofs.Try.prog 17 = Option.some 8 := by kernel_rfl
@[simp] theorem t_ag17 : isAggT Go.Proofs.Try.prog 17 = Option.some Bool.false := by kernel_rfl
@[simp] theorem t_za17 : zeroA Go.Proofs.Try.prog 17 = Option.some AV.nilptr := by kernel_rfl
@[simp] theorem t_sz18 : sizeT Go.Proofs.Try.prog 18 = Option.some 1 := by kernel_rfl
@[simp] theorem t_by18 : bytesT Go.Proofs.Try.prog 18 = Option.some 8 := by kernel_rfl
@[simp] theorem t_ag18 : isAggT Go.Proofs.Try.prog 18 = Option.some Bool.true := by kernel_rfl
@[simp] theorem t_za18 : zeroA Go.Proofs.Try.prog 18 = Option.some (AV.agg [AV.nilptr]) := by kernel_rfl
@[simp] theorem t_sz19 : sizeT Go.Proofs.Try.prog 19 = Option.some 1 := by kernel_rfl
@[simp] theorem t_by19 : bytesT Go.Proofs.Try.prog 19 = Option.some 8 := by kernel_rfl
@[simp] theorem t_ag19 : isAggT Go.Proofs.Try.prog 19 = Option.some Bool.true := by kernel_rfl
@[simp] theorem t_za19 : zeroA Go.Proofs.Try.prog 19 = Option.some (AV.agg [AV.nilptr]) := by kernel_rfl
@[simp] theorem t_sz20 : sizeT Go.Proofs.Try.prog 20 = Option.some 1 := by kernel_rfl
@[simp] theorem t_by20 : bytesT Go.Proofs.Try.prog 20 = Option.some 16 := by kernel_rfl
@[simp] theorem t_ag20 : isAggT Go.Proofs.Try.prog 20 = Option.some Bool.false := by kernel_rfl
@[simp] theorem t_za20 : zeroA Go.Proofs.Try.prog 20 = Option.some AV.niliface := by kernel_rfl
@[simp] theorem t_sz21 : sizeT Go.Proofs.Try.prog 21 = Option.some 1 := by kernel_rfl
@[simp] theorem t_by21 : bytesT Go.Proofs.Try.prog 21 = Option.some 4 := by kernel_rfl
@[simp] theorem t_ag21 : isAggT Go.Proofs.Try.prog 21 = Option.some Bool.false := by kernel_rfl
@[simp] theorem t_za21 : zeroA Go.Proofs.Try.prog 21 = Option.some (AV.int IntKind.i32 (0)) := by kernel_rfl
@[simp] theorem t_sz22 : sizeT Go.Proofs.Try.prog 22 = Option.some 1 := by kernel_rfl
@[simp] theorem t_by22 : bytesT Go.Proofs.Try.prog 22 = Option.some 24 := by kernel_rfl
@[simp] theorem t_ag22 : isAggT Go.Proofs.Try.prog 22 = Option.some Bool.false := by kernel_rfl
@[simp] theorem t_za22 : zeroA Go.Proofs.Try.prog 22 = Option.some (AV.list [] Tok.full) := by kernel_rfl
@[simp] theorem t_sz23 : sizeT Go.Proofs.Try.prog 23 = Option.some 2 := by kernel_rfl
@[simp] theorem t_by23 : bytesT Go.Proofs.Try.prog 23 = Option.some 32 := by kernel_rfl
@[simp] theorem t_ag23 : isAggT Go.Proofs.Try.prog 23 = Option.some Bool.true := by kernel_rfl
@[simp] theorem t_za23 : zeroA Go.Proofs.Try.prog 23 = Option.some (AV.agg [AV.int IntKind.i64 (0), AV.list [] Tok.full]) := by kernel_rfl
@[simp] theorem t_sz24 : sizeT Go.Proofs.Try.prog 24 = Option.some 2 := by kernel_rfl
@[simp] theorem t_by24 : bytesT Go.Proofs.Try.prog 24 = Option.some 32 := by kernel_rfl
@[simp] theorem t_ag24 : isAggT Go.Proofs.Try.prog 24 = Option.some Bool.true := by kernel_rfl
@[simp] theorem t_za24 : zeroA Go.Proofs.Try.prog 24 = Option.some (AV.agg [AV.int IntKind.i64 (0), AV.list [] Tok.full]) := by kernel_rfl
@[simp] theorem t_sz25 : sizeT Go.Proofs.Try.prog 25 = Option.some 1 := by kernel_rfl
@[simp] theorem t_by25 : bytesT Go.Proofs.Try.prog 25 = Option.some 8 := by kernel_rfl
@[simp] theorem t_ag25 : isAggT Go.Proofs.Try.prog 25 = Option.some Bool.false := by kernel_rfl
@[simp] theorem t_za25 : zeroA Go.Proofs.Try.prog 25 = Option.some (AV.int IntKind.i64 (0)) := by kernel_rfl
@[simp] theorem t_sz26 : sizeT Go.Proofs.Try.prog 26 = Option.some 8 := by kernel_rfl
@[simp] theorem t_by26 : bytesT Go.Proofs.Try.prog 26 = Option.some 80 := by kernel_rfl
@[simp] theorem t_ag26 : isAggT Go.Proofs.Try.prog 26 = Option.some Bool.true := by kernel_rfl
@[simp] theorem t_za26 : zeroA Go.Proofs.Try.prog 26 = Option.some (AV.agg [AV.int IntKind.i64 (0), AV.int IntKind.i64 (0), AV.int IntKind.i64 (0), AV.str [], AV.str [], AV.int IntKind.i64 (0), AV.int IntKind.i64 (0), AV.int IntKind.i64 (0)]) := by kernel_rfl
@[simp] theorem t_sz27 : sizeT Go.Proofs.Try.prog 27 = Option.some 8 := by kernel_rfl
@[simp] theorem t_by27 : bytesT Go.Proofs.Try.prog 27 = Option.some 80 := by kernel_rfl
@[simp] theorem t_ag27 : isAggT Go.Proofs.Try.prog 27 = Option.some Bool.true := by kernel_rfl
@[simp] theorem t_za27 : zeroA Go.Proofs.Try.prog 27 = Option.some (AV.agg [AV.int IntKind.i64 (0), AV.int IntKind.i64 (0), AV.int IntKind.i64 (0), AV.str [], AV.str [], AV.int IntKind.i64 (0), AV.int IntKind.i64 (0), AV.int IntKind.i64 (0)]) := by kernel_rfl
@[simp] theorem t_sz28 : sizeT Go.Proofs.Try.prog 28 = Option.some 1 := by kernel_rfl
@[simp] theorem t_by28 : bytesT Go.Proofs.Try.prog 28 = Option.some 8 := by kernel_rfl
@[simp] theorem t_ag28 : isAggT Go.Proofs.Try.prog 28 = Option.some Bool.false := by kernel_rfl
@[simp] theorem t_za28 : zeroA Go.Proofs.Try.prog 28 = Option.some AV.nilfunc := by kernel_rfl
@[simp] theorem t_sz29 : sizeT Go.Proofs.Try.prog 29 = Option.some 1 := by kernel_rfl
@[simp] theorem t_by29 : bytesT Go.Proofs.Try.prog 29 = Option.some 8 := by kernel_rfl
@[simp] theorem t_ag29 : isAggT Go.Proofs.Try.prog 29 = Option.some Bool.false := by kernel_rfl
@[simp] theorem t_za29 : zeroA Go.Proofs.Try.prog 29 = Option.some (AV.int IntKind.i64 (0)) := by kernel_rfl
@[simp] theorem t_sz30 : sizeT Go.Proofs.Try.prog 30 = Option.some 1 := by kernel_rfl
@[simp] theorem t_by30 : bytesT Go.Proofs.Try.prog 30 = Option.some 0 := by kernel_rfl
@[simp] theorem t_ag30 : isAggT Go.Proofs.Try.prog 30 = Option.some Bool.false := by kernel_rfl
@[simp] theorem t_sz31 : sizeT Go.Proofs.Try.prog 31 = Option.some 1 := by kernel_rfl
@[simp] theorem t_by31 : bytesT Go.Proofs.Try.prog 31 = Option.some 8 := by kernel_rfl
@[simp] theorem t_ag31 : isAggT Go.Proofs.Try.prog 31 = Option.some Bool.false := by kernel_rfl
@[simp] theorem t_za31 : zeroA Go.Proofs.Try.prog 31 = Option.some AV.nilfunc := by kernel_rfl
@[simp] theorem t_sz32 : sizeT Go.Proofs.Try.prog 32 = Option.some 1 := by kernel_rfl
@[simp] theorem t_by32 : bytesT Go.Proofs.Try.prog 32 = Option.some 8 := by kernel_rfl
@[simp] theorem t_ag32 : isAggT Go.Proofs.Try.prog 32 = Option.some Bool.false := by kernel_rfl
@[simp] theorem t_za32 : zeroA Go.Proofs.Try.prog 32 = Option.some AV.nilfunc := by kernel_rfl
@[simp] theorem t_sz33 : sizeT Go.Proofs.Try.prog 33 = Option.some 1 := by kernel_rfl
@[simp] theorem t_by33 : bytesT Go.Proofs.Try.prog 33 = Option.some 8 := by kernel_rfl
@[simp] theorem t_ag33 : isAggT Go.Proofs.Try.prog 33 = Option.some Bool.false := by kernel_rfl
@[simp] theorem t_za33 : zeroA Go.Proofs.Try.prog 33 = Option.some AV.nilfunc := by kernel_rfl
@[simp] theorem t_sz34 : sizeT Go.Proofs.Try.prog 34 = Option.some 1 := by kernel_rfl
@[simp] theorem t_by34 : bytesT Go.Proofs.Try.prog 34 = Option.some 8 := by kernel_rfl
@[simp] theorem t_ag34 : isAggT Go.Proofs.Try.prog 34 = Option.some Bool.false := by kernel_rfl
@[simp] theorem t_za34 : zeroA Go.Proofs.Try.prog 34 = Option.some AV.nilfunc := by kernel_rfl
@[simp] theorem t_sz35 : sizeT Go.Proofs.Try.prog 35 = Option.some 1 := by kernel_rfl
@[simp] theorem t_by35 : bytesT Go.Proofs.Try.prog 35 = Option.some 8 := by kernel_rfl
@[simp] theorem t_ag35 : isAggT Go.Proofs.Try.prog 35 = Option.some Bool.false := by kernel_rfl
@[simp] theorem t_za35 : zeroA Go.Proofs.Try.prog 35 = Option.some AV.nilfunc := by kernel_rfl
@[simp] theorem t_sz36 : sizeT Go.Proofs.Try.prog 36 = Option.some 1 := by kernel_rfl
@[simp] theorem t_by36 : bytesT Go.Proofs.Try.prog 36 = Option.some 8 := by kernel_rfl
@[simp] theorem t_ag36 : isAggT Go.Proofs.Try.prog 36 = Option.some Bool.false := by kernel_rfl
@[simp] theorem t_za36 : zeroA Go.Proofs.Try.prog 36 = Option.some AV.nilfunc := by kernel_rfl
@[simp] theorem t_sz37 : sizeT Go.Proofs.Try.prog 37 = Option.some 1 := by kernel_rfl
@[simp] theorem t_by37 : bytesT Go.Proofs.Try.prog 37 = Option.some 8 := by kernel_rfl
@[simp] theorem t_ag37 : isAggT Go.Proofs.Try.prog 37 = Option.some Bool.false := by kernel_rfl
@[simp] theorem t_za37 : zeroA Go.Proofs.Try.prog 37 = Option.some AV.nilfunc := by kernel_rfl
@[simp] theorem t_sz38 : sizeT Go.Proofs.Try.prog 38 = Option.some 1 := by kernel_rfl
@[simp] theorem t_by38 : bytesT Go.Proofs.Try.prog 38 = Option.some 24 := by kernel_rfl
@[simp] theorem t_ag38 : isAggT Go.Proofs.Try.prog 38 = Option.some Bool.false := by kernel_rfl
@[simp] theorem t_za38 : zeroA Go.Proofs.Try.prog 38 = Option.some (AV.list [] Tok.full) := by kernel_rfl
@[simp] theorem t_sz39 : sizeT Go.Proofs.Try.prog 39 = Option.some 1 := by kernel_rfl
@[simp] theorem t_by39 : bytesT Go.Proofs.Try.prog 39 = Option.some 8 := by kernel_rfl
@[simp] theorem t_ag39 : isAggT Go.Proofs.Try.prog 39 = Option.some Bool.false := by kernel_rfl
@[simp] theorem t_za39 : zeroA Go.Proofs.Try.prog 39 = Option.some AV.nilfunc := by kernel_rfl
@[simp] theorem t_sz40 : sizeT Go.Proofs.Try.prog 40 = Option.some 1 := by kernel_rfl
@[simp] theorem t_by40 : bytesT Go.Proofs.Try.prog 40 = Option.some 8 := by kernel_rfl
@[simp] theorem t_ag40 : isAggT Go.Proofs.Try.prog 40 = Option.some Bool.false := by kernel_rfl
@[simp] theorem t_za40 : zeroA Go.Proofs.Try.prog 40 = Option.some AV.nilfunc := by kernel_rfl
@[simp] theorem t_sz41 : sizeT Go.Proofs.Try.prog 41 = Option.some 1 := by kernel_rfl
@[simp] theorem t_by41 : bytesT Go.Proofs.Try.prog 41 = Option.some 8 := by kernel_rfl
@[simp] theorem t_ag41 : isAggT Go.Proofs.Try.prog 41 = Option.some Bool.false := by kernel_rfl
@[simp] theorem t_za41 : zeroA Go.Proofs.Try.prog 41 = Option.some AV.nilmap := by kernel_rfl
@[simp] theorem t_sz42 : sizeT Go.Proofs.Try.prog 42 = Option.some 1 := by kernel_rfl
@[simp] theorem t_by42 : bytesT Go.Proofs.Try.prog 42 = Option.some 0 := by kernel_rfl
@[simp] theorem t_ag42 : isAggT Go.Proofs.Try.prog 42 = Option.some Bool.false := by kernel_rfl
@[simp] theorem t_za42 : zeroA Go.Proofs.Try.prog 42 = Option.some (AV.tuple [AV.list [] Tok.full, AV.int IntKind.i64 (0)]) := by kernel_rfl
@[simp] theorem t_sz43 : sizeT Go.Proofs.Try.prog 43 = Option.some 1 := by kernel_rfl
@[simp] theorem t_by43 : bytesT Go.Proofs.Try.prog 43 = Option.some 8 := by kernel_rfl
@[simp] theorem t_ag43 : isAggT Go.Proofs.Try.prog 43 = Option.some Bool.false := by kernel_rfl
@[simp] theorem t_za43 : zeroA Go.Proofs.Try.prog 43 = Option.some AV.nilfunc := by kernel_rfl
@[simp] theorem t_sz44 : sizeT Go.Proofs.Try.prog 44 = Option.some 1 := by kernel_rfl
@[simp] theorem t_by44 : bytesT Go.Proofs.Try.prog 44 = Option.some 8 := by kernel_rfl
@[simp] theorem t_ag44 : isAggT Go.Proofs.Try.prog 44 = Option.some Bool.false := by kernel_rfl
@[simp] theorem t_za44 : zeroA Go.Proofs.Try.prog 44 = Option.some AV.nilfunc := by kernel_rfl
@[simp] theorem t_sz45 : sizeT Go.Proofs.Try.prog 45 = Option.some 1 := by kernel_rfl
@[simp] theorem t_by45 : bytesT Go.Proofs.Try.prog 45 = Option.some 8 := by kernel_rfl
@[simp] theorem t_ag45 : isAggT Go.Proofs.Try.prog 45 = Option.some Bool.false := by kernel_rfl
@[simp] theorem t_za45 : zeroA Go.Proofs.Try.prog 45 = Option.some AV.nilfunc := by kernel_rfl
@[simp] theorem t_sz46 : sizeT Go.Proofs.Try.prog 46 = Option.some 1 := by kernel_rfl
@[simp] theorem t_by46 : bytesT Go.Proofs.Try.prog 46 = Option.some 8 := by kernel_rfl
@[simp] theorem t_ag46 : isAggT Go.Proofs.Try.prog 46 = Option.some Bool.false := by kernel_rfl
@[simp] theorem t_za46 : zeroA Go.Proofs.Try.prog 46 = Option.some AV.nilfunc := by kernel_rfl
@[simp] theorem t_sz47 : sizeT Go.Proofs.Try.prog 47 = Option.some 1 := by kernel_rfl
@[simp] theorem t_by47 : bytesT Go.Proofs.Try.prog 47 = Option.some 8 := by kernel_rfl
@[simp] theorem t_ag47 : isAggT Go.Proofs.Try.prog 47 = Option.some Bool.false := by kernel_rfl
@[simp] theorem t_za47 : zeroA Go.Proofs.Try.prog 47 = Option.some AV.nilfunc := by kernel_rfl
@[simp] theorem t_sz48 : sizeT Go.Proofs.Try.prog 48 = Option.some 1 := by kernel_rfl
@[simp] theorem t_by48 : bytesT Go.Proofs.Try.prog 48 = Option.some 8 := by kernel_rfl
@[simp] theorem t_ag48 : isAggT Go.Proofs.Try.prog 48 = Option.some Bool.false := by kernel_rfl
@[simp] theorem t_za48 : zeroA Go.Proofs.Try.prog 48 = Option.some AV.nilfunc := by kernel_rfl
@[simp] theorem t_sz49 : sizeT Go.Proofs.Try.prog 49 = Option.some 1 := by kernel_rfl
@[simp] theorem t_by49 : bytesT Go.Proofs.Try.prog 49 = Option.some 8 := by kernel_rfl
@[simp] theorem t_ag49 : isAggT Go.Proofs.Try.prog 49 = Option.some Bool.false := by kernel_rfl
@[simp] theorem t_za49 : zeroA Go.Proofs.Try.prog 49 = Option.some AV.nilfunc := by kernel_rfl
@[simp] theorem t_sz50 : sizeT Go.Proofs.Try.prog 50 = Option.some 1 := by kernel_rfl
@[simp] theorem t_by50 : bytesT Go.Proofs.Try.prog 50 = Option.some 8 := by kernel_rfl
@[simp] theorem t_ag50 : isAggT Go.Proofs.Try.prog 50 = Option.some Bool.false := by kernel_rfl
@[simp] theorem t_za50 : zeroA Go.Proofs.Try.prog 50 = Option.some AV.nilfunc := by kernel_rfl
@[simp] theorem t_sz51 : sizeT Go.Proofs.Try.prog 51 = Option.some 1 := by kernel_rfl
@[simp] theorem t_by51 : bytesT Go.Proofs.Try.prog 51 = Option.some 8 := by kernel_rfl
@[simp] theorem t_ag51 : isAggT Go.Proofs.Try.prog 51 = Option.some Bool.false := by kernel_rfl
@[simp] theorem t_za51 : zeroA Go.Proofs.Try.prog 51 = Option.some AV.nilfunc := by kernel_rfl
@[simp] theorem t_sz52 : sizeT Go.Proofs.Try.prog 52 = Option.some 1 := by kernel_rfl
@[simp] theorem t_by52 : bytesT Go.Proofs.Try.prog 52 = Option.some 0 := by kernel_rfl
@[simp] theorem t_ag52 : isAggT Go.Proofs.Try.prog 52 = Option.some Bool.false := by kernel_rfl
@[simp] theorem t_za52 : zeroA Go.Proofs.Try.prog 52 = Option.some (AV.tuple [AV.int IntKind.i64 (0), AV.bool Bool.false]) := by kernel_rfl
@[simp] theorem t_sz53 : sizeT Go.Proofs.Try.prog 53 = Option.some 1 := by kernel_rfl
@[simp] theorem t_by53 : bytesT Go.Proofs.Try.prog 53 = Option.some 8 := by kernel_rfl
@[simp] theorem t_ag53 : isAggT Go.Proofs.Try.prog 53 = Option.some Bool.false := by kernel_rfl
@[simp] theorem t_za53 : zeroA Go.Proofs.Try.prog 53 = Option.some AV.nilfunc := by kernel_rfl
@[simp] theorem t_sz54 : sizeT Go.Proofs.Try.prog 54 = Option.some 1 := by kernel_rfl
@[simp] theorem t_by54 : bytesT Go.Proofs.Try.prog 54 = Option.some 8 := by kernel_rfl
@[simp] theorem t_ag54 : isAggT Go.Proofs.Try.prog 54 = Option.some Bool.false := by kernel_rfl
@[simp] theorem t_za54 : zeroA Go.Proofs.Try.prog 54 = Option.some AV.nilfunc := by kernel_rfl
@[simp] theorem t_sz55 : sizeT Go.Proofs.Try.prog 55 = Option.some 1 := by kernel_rfl
@[simp] theorem t_by55 : bytesT Go.Proofs.Try.prog 55 = Option.some 8 := by kernel_rfl
@[simp] theorem t_ag55 : isAggT Go.Proofs.Try.prog 55 = Option.some Bool.false := by kernel_rfl
@[simp] theorem t_za55 : zeroA Go.Proofs.Try.prog 55 = Option.some (AV.int IntKind.u64 (0)) := by kernel_rfl
@[simp] theorem t_sz56 : sizeT Go.Proofs.Try.prog 56 = Option.some 1 := by kernel_rfl
@[simp] theorem t_by56 : bytesT Go.Proofs.Try.prog 56 = Option.some 8 := by kernel_rfl
@[simp] theorem t_ag56 : isAggT Go.Proofs.Try.prog 56 = Option.some Bool.false := by kernel_rfl
@[simp] theorem t_za56 : zeroA Go.Proofs.Try.prog 56 = Option.some AV.nilfunc := by kernel_rfl
@[simp] theorem t_sz57 : sizeT Go.Proofs.Try.prog 57 = Option.some 1 := by kernel_rfl
@[simp] theorem t_by57 : bytesT Go.Proofs.Try.prog 57 = Option.some 8 := by kernel_rfl
@[simp] theorem t_ag57 : isAggT Go.Proofs.Try.prog 57 = Option.some Bool.false := by kernel_rfl
@[simp] theorem t_za57 : zeroA Go.Proofs.Try.prog 57 = Option.some AV.nilfunc := by kernel_rfl
@[simp] theorem t_sz58 : sizeT Go.Proofs.Try.prog 58 = Option.some 4 := by kernel_rfl
@[simp] theorem t_by58 : bytesT Go.Proofs.Try.prog 58 = Option.some 40 := by kernel_rfl
@[simp] theorem t_ag58 : isAggT Go.Proofs.Try.prog 58 = Option.some Bool.true := by kernel_rfl
@[simp] theorem t_za58 : zeroA Go.Proofs.Try.prog 58 = Option.some (AV.agg [AV.nilptr, AV.nilptr, AV.nilptr, AV.str []]) := by kernel_rfl
@[simp] theorem t_sz59 : sizeT Go.Proofs.Try.prog 59 = Option.some 4 := by kernel_rfl
@[simp] theorem t_by59 : bytesT Go.Proofs.Try.prog 59 = Option.some 40 := by kernel_rfl
@[simp] theorem t_ag59 : isAggT Go.Proofs.Try.prog 59 = Option.some Bool.true := by kernel_rfl
@[simp] theorem t_za59 : zeroA Go.Proofs.Try.prog 59 = Option.some (AV.agg [AV.nilptr, AV.nilptr, AV.nilptr, AV.str []]) := by kernel_rfl
@[simp] theorem t_sz60 : sizeT Go.Proofs.Try.prog 60 = Option.some 0 := by kernel_rfl
@[simp] theorem t_by60 : bytesT Go.Proofs.Try.prog 60 = Option.some 0 := by kernel_rfl
@[simp] theorem t_ag60 : isAggT Go.Proofs.Try.prog 60 = Option.some Bool.true := by kernel_rfl
@[simp] theorem t_za60 : zeroA Go.Proofs.Try.prog 60 = Option.some (AV.agg []) := by kernel_rfl
@[simp] theorem t_sz61 : sizeT Go.Proofs.Try.prog 61 = Option.some 0 := by kernel_rfl
@[simp] theorem t_by61 : bytesT Go.Proofs.Try.prog 61 = Option.some 0 := by kernel_rfl
@[simp] theorem t_ag61 : isAggT Go.Proofs.Try.prog 61 = Option.some Bool.true := by kernel_rfl
@[simp] theorem t_za61 : zeroA Go.Proofs.Try.prog 61 = Option.some (AV.agg []) := by kernel_rfl
@[simp] theorem t_sz62 : sizeT Go.Proofs.Try.prog 62 = Option.some 0 := by kernel_rfl
@[simp] theorem t_by62 : bytesT Go.Proofs.Try.prog 62 = Option.some 0 := by kernel_rfl
@[simp] theorem t_ag62 : isAggT Go.Proofs.Try.prog 62 = Option.some Bool.true := by kernel_rfl
@[simp] theorem t_za62 : zeroA Go.Proofs.Try.prog 62 = Option.some (AV.agg []) := by kernel_rfl
@[simp] theorem t_sz63 : sizeT Go.Proofs.Try.prog 63 = Option.some 1 := by kernel_rfl
@[simp] theorem t_by63 : bytesT Go.Proofs.Try.prog 63 = Option.some 8 := by kernel_rfl
@[simp] theorem t_ag63 : isAggT Go.Proofs.Try.prog 63 = Option.some Bool.false := by kernel_rfl
@[simp] theorem t_za63 : zeroA Go.Proofs.Try.prog 63 = Option.some AV.nilfunc := by kernel_rfl
@[simp] theorem t_sz64 : sizeT Go.Proofs.Try.prog 64 = Option.some 1 := by kernel_rfl
@[simp] theorem t_by64 : bytesT Go.Proofs.Try.prog 64 = Option.some 4 := by kernel_rfl
@[simp] theorem t_ag64 : isAggT Go.Proofs.Try.prog 64 = Option.some Bool.false := by kernel_rfl
@[simp] theorem t_za64 : zeroA Go.Proofs.Try.prog 64 = Option.some (AV.int IntKind.u32 (0)) := by kernel_rfl
@[simp] theorem t_sz65 : sizeT Go.Proofs.Try.prog 65 = Option.some 1 := by kernel_rfl
@[simp] theorem t_by65 : bytesT Go.Proofs.Try.prog 65 = Option.some 1 := by kernel_rfl
@[simp] theorem t_ag65 : isAggT Go.Proofs.Try.prog 65 = Option.some Bool.false := by kernel_rfl
@[simp] theorem t_za65 : zeroA Go.Proofs.Try.prog 65 = Option.some (AV.int IntKind.u8 (0)) := by kernel_rfl
@[simp] theorem t_sz66 : sizeT Go.Proofs.Try.prog 66 = Option.some 1 := by kernel_rfl
@[simp] theorem t_by66 : bytesT Go.Proofs.Try.prog 66 = Option.some 1 := by kernel_rfl
@[simp] theorem t_ag66 : isAggT Go.Proofs.Try.prog 66 = Option.some Bool.false := by kernel_rfl
@[simp] theorem t_za66 : zeroA Go.Proofs.Try.prog 66 = Option.some (AV.int IntKind.u8 (0)) := by kernel_rfl
@[simp] theorem t_sz67 : sizeT Go.Proofs.Try.prog 67 = Option.some 1 := by kernel_rfl
@[simp] theorem t_by67 : bytesT Go.Proofs.Try.prog 67 = Option.some 8 := by kernel_rfl
@[simp] theorem t_ag67 : isAggT Go.Proofs.Try.prog 67 = Option.some Bool.false := by kernel_rfl
@[simp] theorem t_za67 : zeroA Go.Proofs.Try.prog 67 = Option.some AV.nilfunc := by kernel_rfl
@[simp] theorem t_sz68 : sizeT Go.Proofs.Try.prog 68 = Option.some 1 := by kernel_rfl
@[simp] theorem t_by68 : bytesT Go.Proofs.Try.prog 68 = Option.some 8 := by kernel_rfl
@[simp] theorem t_ag68 : isAggT Go.Proofs.Try.prog 68 = Option.some Bool.false := by kernel_rfl
@[simp] theorem t_za68 : zeroA Go.Proofs.Try.prog 68 = Option.some AV.nilptr := by kernel_rfl
@[simp] theorem t_sz69 : sizeT Go.Proofs.Try.prog 69 = Option.some 1 := by kernel_rfl
@[simp] theorem t_by69 : bytesT Go.Proofs.Try.prog 69 = Option.some 4 := by kernel_rfl
@[simp] theorem t_ag69 : isAggT Go.Proofs.Try.prog 69 = Option.some Bool.false := by kernel_rfl
@[simp] theorem t_za69 : zeroA Go.Proofs.Try.prog 69 = Option.some (AV.int IntKind.i32 (0)) := by kernel_rfl
@[simp] theorem t_sz70 : sizeT Go.Proofs.Try.prog 70 = Option.some 1 := by kernel_rfl
@[simp] theorem t_by70 : bytesT Go.Proofs.Try.prog 70 = Option.some 4 := by kernel_rfl
@[simp] theorem t_ag70 : isAggT Go.Proofs.Try.prog 70 = Option.some Bool.false := by kernel_rfl
@[simp] theorem t_za70 : zeroA Go.Proofs.Try.prog 70 = Option.some (AV.int IntKind.i32 (0)) := by kernel_rfl
@[simp] theorem t_sz71 : sizeT Go.Proofs.Try.prog 71 = Option.some 11 := by kernel_rfl
@[simp] theorem t_by71 : bytesT Go.Proofs.Try.prog 71 = Option.some 48 := by kernel_rfl
@[simp] theorem t_ag71 : isAggT Go.Proofs.Try.prog 71 = Option.some Bool.true := by kernel_rfl
@[simp] theorem t_za71 : zeroA Go.Proofs.Try.prog 71 = Option.some (AV.agg [AV.int IntKind.u64 (0), AV.int IntKind.u64 (0), AV.int IntKind.u32 (0), AV.int IntKind.u8 (0), AV.int IntKind.u8 (0), AV.int IntKind.u8 (0), AV.int IntKind.u8 (0), AV.nilfunc, AV.nilptr, AV.int IntKind.i32 (0), AV.int IntKind.i32 (0)]) := by kernel_rfl
@[simp] theorem t_sz72 : sizeT Go.Proofs.Try.prog 72 = Option.some 11 := by kernel_rfl
@[simp] theorem t_by72 : bytesT Go.Proofs.Try.prog 72 = Option.some 48 := by kernel_rfl
@[simp] theorem t_ag72 : isAggT Go.Proofs.Try.prog 72 = Option.some Bool.true := by kernel_rfl
@[simp] theorem t_za72 : zeroA Go.Proofs.Try.prog 72 = Option.some (AV.agg [AV.int IntKind.u64 (0), AV.int IntKind.u64 (0), AV.int IntKind.u32 (0), AV.int IntKind.u8 (0), AV.int IntKind.u8 (0), AV.int IntKind.u8 (0), AV.int IntKind.u8 (0), AV.nilfunc, AV.nilptr, AV.int IntKind.i32 (0), AV.int IntKind.i32 (0)]) := by kernel_rfl
@[simp] theorem t_sz73 : sizeT Go.Proofs.Try.prog 73 = Option.some 1 := by kernel_rfl
@[simp] theorem t_by73 : bytesT Go.Proofs.Try.prog 73 = Option.some 8 := by kernel_rfl
@[simp] theorem t_ag73 : isAggT Go.Proofs.Try.prog 73 = Option.some Bool.false := by kernel_rfl
@[simp] theorem t_za73 : zeroA Go.Proofs.Try.prog 73 = Option.some AV.nilptr := by kernel_rfl
@[simp] theorem t_pl7 : placesOf Go.Proofs.Try.prog 7 = some fun i => ([(0, 1), (1, 1), (2, 1), (3, 1)] : List (Nat × Nat)).toArray[i]? := by kernel_rfl
@[simp] theorem t_pl8 : placesOf Go.Proofs.Try.prog 8 = some fun i => ([(0, 1), (1, 1), (2, 1), (3, 1)] : List (Nat × Nat)).toArray[i]? := by kernel_rfl
@[simp] theorem t_pl13 : placesOf Go.Proofs.Try.prog 13 = some fun i => ([(0, 1), (1, 1)] : List (Nat × Nat)).toArray[i]? := by kernel_rfl
@[simp] theorem t_pl14 : placesOf Go.Proofs.Try.prog 14 = some fun i => ([(0, 1), (1, 1)] : List (Nat × Nat)).toArray[i]? := by kernel_rfl
@[simp] theorem t_pl18 : placesOf Go.Proofs.Try.prog 18 = some fun i => ([(0, 1)] : List (Nat × Nat)).toArray[i]? := by kernel_rfl
@[simp] theorem t_pl19 : placesOf Go.Proofs.Try.prog 19 = some fun i => ([(0, 1)] : List (Nat × Nat)).toArray[i]? := by kernel_rfl
@[simp] theorem t_pl23 : placesOf Go.Proofs.Try.prog 23 = some fun i => ([(0, 1), (1, 1)] : List (Nat × Nat)).toArray[i]? := by kernel_rfl
@[simp] theorem t_pl24 : placesOf Go.Proofs.Try.prog 24 = some fun i => ([(0, 1), (1, 1)] : List (Nat × Nat)).toArray[i]? := by kernel_rfl
@[simp] theorem t_eg24 : Go.Proofs.Try.prog.eqGuardType Go.Proofs.Try.prog.depth 24 = false := by kernel_rfl
@[simp] theorem t_st24 : Go.Proofs.Try.prog.stoodInHeld 24 = false := by kernel_rfl
@[simp] theorem t_pl26 : placesOf Go.Proofs.Try.prog 26 = some fun i => ([(0, 1), (1, 1), (2, 1), (3, 1), (4, 1), (5, 1), (6, 1), (7, 1)] : List (Nat × Nat)).toArray[i]? := by kernel_rfl
@[simp] theorem t_pl27 : placesOf Go.Proofs.Try.prog 27 = some fun i => ([(0, 1), (1, 1), (2, 1), (3, 1), (4, 1), (5, 1), (6, 1), (7, 1)] : List (Nat × Nat)).toArray[i]? := by kernel_rfl
@[simp] theorem t_eg27 : Go.Proofs.Try.prog.eqGuardType Go.Proofs.Try.prog.depth 27 = false := by kernel_rfl
@[simp] theorem t_st27 : Go.Proofs.Try.prog.stoodInHeld 27 = false := by kernel_rfl
@[simp] theorem t_pl58 : placesOf Go.Proofs.Try.prog 58 = some fun i => ([(0, 1), (1, 1), (2, 1), (3, 1)] : List (Nat × Nat)).toArray[i]? := by kernel_rfl
@[simp] theorem t_pl59 : placesOf Go.Proofs.Try.prog 59 = some fun i => ([(0, 1), (1, 1), (2, 1), (3, 1)] : List (Nat × Nat)).toArray[i]? := by kernel_rfl
@[simp] theorem t_pl60 : placesOf Go.Proofs.Try.prog 60 = some fun i => some (i * 1, 1) := by kernel_rfl
@[simp] theorem t_pl61 : placesOf Go.Proofs.Try.prog 61 = some fun i => ([(0, 0)] : List (Nat × Nat)).toArray[i]? := by kernel_rfl
@[simp] theorem t_pl62 : placesOf Go.Proofs.Try.prog 62 = some fun i => ([(0, 0)] : List (Nat × Nat)).toArray[i]? := by kernel_rfl
@[simp] theorem t_pl71 : placesOf Go.Proofs.Try.prog 71 = some fun i => ([(0, 1), (1, 1), (2, 1), (3, 1), (4, 1), (5, 1), (6, 1), (7, 1), (8, 1), (9, 1), (10, 1)] : List (Nat × Nat)).toArray[i]? := by kernel_rfl
@[simp] theorem t_pl72 : placesOf Go.Proofs.Try.prog 72 = some fun i => ([(0, 1), (1, 1), (2, 1), (3, 1), (4, 1), (5, 1), (6, 1), (7, 1), (8, 1), (9, 1), (10, 1)] : List (Nat × Nat)).toArray[i]? := by kernel_rfl
attribute [simp] Go.Proofs.Try.underlying0 Go.Proofs.Try.underlying1 Go.Proofs.Try.underlying2 Go.Proofs.Try.underlying3 Go.Proofs.Try.underlying4 Go.Proofs.Try.underlying5 Go.Proofs.Try.underlying6 Go.Proofs.Try.underlying7 Go.Proofs.Try.underlying8 Go.Proofs.Try.underlying9 Go.Proofs.Try.underlying10 Go.Proofs.Try.underlying11 Go.Proofs.Try.underlying12 Go.Proofs.Try.underlying13 Go.Proofs.Try.underlying14 Go.Proofs.Try.underlying15 Go.Proofs.Try.underlying16 Go.Proofs.Try.underlying17 Go.Proofs.Try.underlying18 Go.Proofs.Try.underlying19 Go.Proofs.Try.underlying20 Go.Proofs.Try.underlying21 Go.Proofs.Try.underlying22 Go.Proofs.Try.underlying23 Go.Proofs.Try.underlying24 Go.Proofs.Try.underlying25 Go.Proofs.Try.underlying26 Go.Proofs.Try.underlying27 Go.Proofs.Try.underlying28 Go.Proofs.Try.underlying29 Go.Proofs.Try.underlying30 Go.Proofs.Try.underlying31 Go.Proofs.Try.underlying32 Go.Proofs.Try.underlying33 Go.Proofs.Try.underlying34 Go.Proofs.Try.underlying35 Go.Proofs.Try.underlying36 Go.Proofs.Try.underlying37 Go.Proofs.Try.underlying38 Go.Proofs.Try.underlying39 Go.Proofs.Try.underlying40 Go.Proofs.Try.underlying41 Go.Proofs.Try.underlying42 Go.Proofs.Try.underlying43 Go.Proofs.Try.underlying44 Go.Proofs.Try.underlying45 Go.Proofs.Try.underlying46 Go.Proofs.Try.underlying47 Go.Proofs.Try.underlying48 Go.Proofs.Try.underlying49 Go.Proofs.Try.underlying50 Go.Proofs.Try.underlying51 Go.Proofs.Try.underlying52 Go.Proofs.Try.underlying53 Go.Proofs.Try.underlying54 Go.Proofs.Try.underlying55 Go.Proofs.Try.underlying56 Go.Proofs.Try.underlying57 Go.Proofs.Try.underlying58 Go.Proofs.Try.underlying59 Go.Proofs.Try.underlying60 Go.Proofs.Try.underlying61 Go.Proofs.Try.underlying62 Go.Proofs.Try.underlying63 Go.Proofs.Try.underlying64 Go.Proofs.Try.underlying65 Go.Proofs.Try.underlying66 Go.Proofs.Try.underlying67 Go.Proofs.Try.underlying68 Go.Proofs.Try.underlying69 Go.Proofs.Try.underlying70 Go.Proofs.Try.underlying71 Go.Proofs.Try.underlying72 Go.Proofs.Try.underlying73
end Go.Proofs.Ytnocnhdhlibmpaa.V
