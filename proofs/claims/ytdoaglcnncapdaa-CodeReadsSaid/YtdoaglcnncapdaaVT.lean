/- The program's types, as the abstract states ask for them: written by program. -/
import Derived.Test.YtdoaglcnncapdaaProg
import Derived.Test.YtdoaglcnncapdaaV17
namespace Go.Proofs.Ytdoaglcnncapdaa.V
open Go
set_option maxRecDepth 100000
@[simp] theorem t_sz3 : sizeT Go.Proofs.Try.prog 3 = Option.some 1 := by kernel_rfl
@[simp] theorem t_by3 : bytesT Go.Proofs.Try.prog 3 = Option.some 8 := by kernel_rfl
@[simp] theorem t_ag3 : isAggT Go.Proofs.Try.prog 3 = Option.some Bool.false := by kernel_rfl
@[simp] theorem t_za3 : zeroA Go.Proofs.Try.prog 3 = Option.some (AV.int IntKind.i64 (0)) := by kernel_rfl
@[simp] theorem t_sz4 : sizeT Go.Proofs.Try.prog 4 = Option.some 1 := by kernel_rfl
@[simp] theorem t_by4 : bytesT Go.Proofs.Try.prog 4 = Option.some 1 := by kernel_rfl
@[simp] theorem t_ag4 : isAggT Go.Proofs.Try.prog 4 = Option.some Bool.false := by kernel_rfl
@[simp] theorem t_za4 : zeroA Go.Proofs.Try.prog 4 = Option.some (AV.bool Bool.false) := by kernel_rfl
@[simp] theorem t_sz5 : sizeT Go.Proofs.Try.prog 5 = Option.some 1 := by kernel_rfl
@[simp] theorem t_by5 : bytesT Go.Proofs.Try.prog 5 = Option.some 1 := by kernel_rfl
@[simp] theorem t_ag5 : isAggT Go.Proofs.Try.prog 5 = Option.some Bool.false := by kernel_rfl
@[simp] theorem t_za5 : zeroA Go.Proofs.Try.prog 5 = Option.some (AV.int IntKind.u8 (0)) := by kernel_rfl
@[simp] theorem t_sz9 : sizeT Go.Proofs.Try.prog 9 = Option.some 1 := by kernel_rfl
@[simp] theorem t_by9 : bytesT Go.Proofs.Try.prog 9 = Option.some 16 := by kernel_rfl
@[simp] theorem t_ag9 : isAggT Go.Proofs.Try.prog 9 = Option.some Bool.false := by kernel_rfl
@[simp] theorem t_za9 : zeroA Go.Proofs.Try.prog 9 = Option.some (AV.str []) := by kernel_rfl
@[simp] theorem t_sz22 : sizeT Go.Proofs.Try.prog 22 = Option.some 1 := by kernel_rfl
@[simp] theorem t_by22 : bytesT Go.Proofs.Try.prog 22 = Option.some 8 := by kernel_rfl
@[simp] theorem t_ag22 : isAggT Go.Proofs.Try.prog 22 = Option.some Bool.false := by kernel_rfl
@[simp] theorem t_za22 : zeroA Go.Proofs.Try.prog 22 = Option.some (AV.int IntKind.i64 (0)) := by kernel_rfl
@[simp] theorem t_sz24 : sizeT Go.Proofs.Try.prog 24 = Option.some 3 := by kernel_rfl
@[simp] theorem t_by24 : bytesT Go.Proofs.Try.prog 24 = Option.some 24 := by kernel_rfl
@[simp] theorem t_ag24 : isAggT Go.Proofs.Try.prog 24 = Option.some Bool.true := by kernel_rfl
@[simp] theorem t_za24 : zeroA Go.Proofs.Try.prog 24 = Option.some (AV.agg [AV.int IntKind.i64 (0), AV.int IntKind.i64 (0), AV.int IntKind.i64 (0)]) := by kernel_rfl
@[simp] theorem t_sz26 : sizeT Go.Proofs.Try.prog 26 = Option.some 2 := by kernel_rfl
@[simp] theorem t_by26 : bytesT Go.Proofs.Try.prog 26 = Option.some 16 := by kernel_rfl
@[simp] theorem t_ag26 : isAggT Go.Proofs.Try.prog 26 = Option.some Bool.true := by kernel_rfl
@[simp] theorem t_za26 : zeroA Go.Proofs.Try.prog 26 = Option.some (AV.agg [AV.int IntKind.i64 (0), AV.int IntKind.i64 (0)]) := by kernel_rfl
@[simp] theorem t_sz27 : sizeT Go.Proofs.Try.prog 27 = Option.some 1 := by kernel_rfl
@[simp] theorem t_by27 : bytesT Go.Proofs.Try.prog 27 = Option.some 8 := by kernel_rfl
@[simp] theorem t_ag27 : isAggT Go.Proofs.Try.prog 27 = Option.some Bool.false := by kernel_rfl
@[simp] theorem t_za27 : zeroA Go.Proofs.Try.prog 27 = Option.some (AV.int IntKind.i64 (0)) := by kernel_rfl
@[simp] theorem t_sz28 : sizeT Go.Proofs.Try.prog 28 = Option.some 1 := by kernel_rfl
@[simp] theorem t_by28 : bytesT Go.Proofs.Try.prog 28 = Option.some 8 := by kernel_rfl
@[simp] theorem t_ag28 : isAggT Go.Proofs.Try.prog 28 = Option.some Bool.false := by kernel_rfl
@[simp] theorem t_za28 : zeroA Go.Proofs.Try.prog 28 = Option.some (AV.int IntKind.i64 (0)) := by kernel_rfl
@[simp] theorem t_sz30 : sizeT Go.Proofs.Try.prog 30 = Option.some 8 := by kernel_rfl
@[simp] theorem t_by30 : bytesT Go.Proofs.Try.prog 30 = Option.some 80 := by kernel_rfl
@[simp] theorem t_ag30 : isAggT Go.Proofs.Try.prog 30 = Option.some Bool.true := by kernel_rfl
@[simp] theorem t_za30 : zeroA Go.Proofs.Try.prog 30 = Option.some (AV.agg [AV.int IntKind.i64 (0), AV.int IntKind.i64 (0), AV.int IntKind.i64 (0), AV.str [], AV.str [], AV.int IntKind.i64 (0), AV.int IntKind.i64 (0), AV.int IntKind.i64 (0)]) := by kernel_rfl
@[simp] theorem t_sz31 : sizeT Go.Proofs.Try.prog 31 = Option.some 1 := by kernel_rfl
@[simp] theorem t_by31 : bytesT Go.Proofs.Try.prog 31 = Option.some 24 := by kernel_rfl
@[simp] theorem t_ag31 : isAggT Go.Proofs.Try.prog 31 = Option.some Bool.false := by kernel_rfl
@[simp] theorem t_za31 : zeroA Go.Proofs.Try.prog 31 = Option.some (AV.list [] Tok.full) := by kernel_rfl
@[simp] theorem t_sz33 : sizeT Go.Proofs.Try.prog 33 = Option.some 2 := by kernel_rfl
@[simp] theorem t_by33 : bytesT Go.Proofs.Try.prog 33 = Option.some 32 := by kernel_rfl
@[simp] theorem t_ag33 : isAggT Go.Proofs.Try.prog 33 = Option.some Bool.true := by kernel_rfl
@[simp] theorem t_za33 : zeroA Go.Proofs.Try.prog 33 = Option.some (AV.agg [AV.int IntKind.i64 (0), AV.list [] Tok.full]) := by kernel_rfl
@[simp] theorem t_sz35 : sizeT Go.Proofs.Try.prog 35 = Option.some 15 := by kernel_rfl
@[simp] theorem t_by35 : bytesT Go.Proofs.Try.prog 35 = Option.some 152 := by kernel_rfl
@[simp] theorem t_ag35 : isAggT Go.Proofs.Try.prog 35 = Option.some Bool.true := by kernel_rfl
@[simp] theorem t_za35 : zeroA Go.Proofs.Try.prog 35 = Option.some (AV.agg [AV.int IntKind.i64 (0), AV.int IntKind.i64 (0), AV.int IntKind.i64 (0), AV.int IntKind.i64 (0), AV.int IntKind.i64 (0), AV.int IntKind.i64 (0), AV.int IntKind.i64 (0), AV.int IntKind.i64 (0), AV.str [], AV.str [], AV.int IntKind.i64 (0), AV.int IntKind.i64 (0), AV.int IntKind.i64 (0), AV.int IntKind.i64 (0), AV.list [] Tok.full]) := by kernel_rfl
@[simp] theorem t_sz36 : sizeT Go.Proofs.Try.prog 36 = Option.some 1 := by kernel_rfl
@[simp] theorem t_by36 : bytesT Go.Proofs.Try.prog 36 = Option.some 24 := by kernel_rfl
@[simp] theorem t_ag36 : isAggT Go.Proofs.Try.prog 36 = Option.some Bool.false := by kernel_rfl
@[simp] theorem t_za36 : zeroA Go.Proofs.Try.prog 36 = Option.some (AV.list [] Tok.full) := by kernel_rfl
@[simp] theorem t_sz38 : sizeT Go.Proofs.Try.prog 38 = Option.some 2 := by kernel_rfl
@[simp] theorem t_by38 : bytesT Go.Proofs.Try.prog 38 = Option.some 32 := by kernel_rfl
@[simp] theorem t_ag38 : isAggT Go.Proofs.Try.prog 38 = Option.some Bool.true := by kernel_rfl
@[simp] theorem t_za38 : zeroA Go.Proofs.Try.prog 38 = Option.some (AV.agg [AV.int IntKind.i64 (0), AV.list [] Tok.full]) := by kernel_rfl
@[simp] theorem t_sz39 : sizeT Go.Proofs.Try.prog 39 = Option.some 1 := by kernel_rfl
@[simp] theorem t_by39 : bytesT Go.Proofs.Try.prog 39 = Option.some 24 := by kernel_rfl
@[simp] theorem t_ag39 : isAggT Go.Proofs.Try.prog 39 = Option.some Bool.false := by kernel_rfl
@[simp] theorem t_za39 : zeroA Go.Proofs.Try.prog 39 = Option.some (AV.list [] Tok.full) := by kernel_rfl
@[simp] theorem t_sz40 : sizeT Go.Proofs.Try.prog 40 = Option.some 1 := by kernel_rfl
@[simp] theorem t_by40 : bytesT Go.Proofs.Try.prog 40 = Option.some 24 := by kernel_rfl
@[simp] theorem t_ag40 : isAggT Go.Proofs.Try.prog 40 = Option.some Bool.false := by kernel_rfl
@[simp] theorem t_za40 : zeroA Go.Proofs.Try.prog 40 = Option.some (AV.list [] Tok.full) := by kernel_rfl
@[simp] theorem t_sz42 : sizeT Go.Proofs.Try.prog 42 = Option.some 4 := by kernel_rfl
@[simp] theorem t_by42 : bytesT Go.Proofs.Try.prog 42 = Option.some 80 := by kernel_rfl
@[simp] theorem t_ag42 : isAggT Go.Proofs.Try.prog 42 = Option.some Bool.true := by kernel_rfl
@[simp] theorem t_za42 : zeroA Go.Proofs.Try.prog 42 = Option.some (AV.agg [AV.int IntKind.i64 (0), AV.list [] Tok.full, AV.list [] Tok.full, AV.list [] Tok.full]) := by kernel_rfl
@[simp] theorem t_sz44 : sizeT Go.Proofs.Try.prog 44 = Option.some 27 := by kernel_rfl
@[simp] theorem t_by44 : bytesT Go.Proofs.Try.prog 44 = Option.some 296 := by kernel_rfl
@[simp] theorem t_ag44 : isAggT Go.Proofs.Try.prog 44 = Option.some Bool.true := by kernel_rfl
@[simp] theorem t_za44 : zeroA Go.Proofs.Try.prog 44 = Option.some (AV.agg [AV.int IntKind.i64 (0), AV.int IntKind.i64 (0), AV.int IntKind.i64 (0), AV.int IntKind.i64 (0), AV.int IntKind.i64 (0), AV.int IntKind.i64 (0), AV.int IntKind.i64 (0), AV.int IntKind.i64 (0), AV.int IntKind.i64 (0), AV.int IntKind.i64 (0), AV.int IntKind.i64 (0), AV.int IntKind.i64 (0), AV.int IntKind.i64 (0), AV.int IntKind.i64 (0), AV.int IntKind.i64 (0), AV.int IntKind.i64 (0), AV.str [], AV.str [], AV.int IntKind.i64 (0), AV.int IntKind.i64 (0), AV.int IntKind.i64 (0), AV.int IntKind.i64 (0), AV.list [] Tok.full, AV.int IntKind.i64 (0), AV.list [] Tok.full, AV.list [] Tok.full, AV.list [] Tok.full]) := by kernel_rfl
@[simp] theorem t_sz46 : sizeT Go.Proofs.Try.prog 46 = Option.some 23 := by kernel_rfl
@[simp] theorem t_by46 : bytesT Go.Proofs.Try.prog 46 = Option.some 264 := by kernel_rfl
@[simp] theorem t_ag46 : isAggT Go.Proofs.Try.prog 46 = Option.some Bool.true := by kernel_rfl
@[simp] theorem t_za46 : zeroA Go.Proofs.Try.prog 46 = Option.some (AV.agg [AV.bool Bool.false, AV.int IntKind.i64 (0), AV.int IntKind.i64 (0), AV.int IntKind.i64 (0), AV.int IntKind.i64 (0), AV.int IntKind.i64 (0), AV.int IntKind.i64 (0), AV.int IntKind.i64 (0), AV.int IntKind.i64 (0), AV.int IntKind.i64 (0), AV.int IntKind.i64 (0), AV.int IntKind.i64 (0), AV.str [], AV.str [], AV.int IntKind.i64 (0), AV.int IntKind.i64 (0), AV.int IntKind.i64 (0), AV.int IntKind.i64 (0), AV.list [] Tok.full, AV.int IntKind.i64 (0), AV.list [] Tok.full, AV.list [] Tok.full, AV.list [] Tok.full]) := by kernel_rfl
@[simp] theorem t_sz49 : sizeT Go.Proofs.Try.prog 49 = Option.some 1 := by kernel_rfl
@[simp] theorem t_by49 : bytesT Go.Proofs.Try.prog 49 = Option.some 24 := by kernel_rfl
@[simp] theorem t_ag49 : isAggT Go.Proofs.Try.prog 49 = Option.some Bool.false := by kernel_rfl
@[simp] theorem t_za49 : zeroA Go.Proofs.Try.prog 49 = Option.some (AV.list [] Tok.full) := by kernel_rfl
@[simp] theorem t_sz50 : sizeT Go.Proofs.Try.prog 50 = Option.some 1 := by kernel_rfl
@[simp] theorem t_by50 : bytesT Go.Proofs.Try.prog 50 = Option.some 8 := by kernel_rfl
@[simp] theorem t_ag50 : isAggT Go.Proofs.Try.prog 50 = Option.some Bool.false := by kernel_rfl
@[simp] theorem t_za50 : zeroA Go.Proofs.Try.prog 50 = Option.some (AV.int IntKind.i64 (0)) := by kernel_rfl
@[simp] theorem t_sz57 : sizeT Go.Proofs.Try.prog 57 = Option.some 23 := by kernel_rfl
@[simp] theorem t_by57 : bytesT Go.Proofs.Try.prog 57 = Option.some 264 := by kernel_rfl
@[simp] theorem t_ag57 : isAggT Go.Proofs.Try.prog 57 = Option.some Bool.true := by kernel_rfl
@[simp] theorem t_za57 : zeroA Go.Proofs.Try.prog 57 = Option.some (AV.agg [AV.bool Bool.false, AV.int IntKind.i64 (0), AV.int IntKind.i64 (0), AV.int IntKind.i64 (0), AV.int IntKind.i64 (0), AV.int IntKind.i64 (0), AV.int IntKind.i64 (0), AV.int IntKind.i64 (0), AV.int IntKind.i64 (0), AV.int IntKind.i64 (0), AV.int IntKind.i64 (0), AV.int IntKind.i64 (0), AV.str [], AV.str [], AV.int IntKind.i64 (0), AV.int IntKind.i64 (0), AV.int IntKind.i64 (0), AV.int IntKind.i64 (0), AV.list [] Tok.full, AV.int IntKind.i64 (0), AV.list [] Tok.full, AV.list [] Tok.full, AV.list [] Tok.full]) := by kernel_rfl
@[simp] theorem t_sz77 : sizeT Go.Proofs.Try.prog 77 = Option.some 1 := by kernel_rfl
@[simp] theorem t_by77 : bytesT Go.Proofs.Try.prog 77 = Option.some 8 := by kernel_rfl
@[simp] theorem t_ag77 : isAggT Go.Proofs.Try.prog 77 = Option.some Bool.false := by kernel_rfl
@[simp] theorem t_za77 : zeroA Go.Proofs.Try.prog 77 = Option.some AV.nilptr := by kernel_rfl
@[simp] theorem t_sz80 : sizeT Go.Proofs.Try.prog 80 = Option.some 2 := by kernel_rfl
@[simp] theorem t_by80 : bytesT Go.Proofs.Try.prog 80 = Option.some 16 := by kernel_rfl
@[simp] theorem t_ag80 : isAggT Go.Proofs.Try.prog 80 = Option.some Bool.true := by kernel_rfl
@[simp] theorem t_za80 : zeroA Go.Proofs.Try.prog 80 = Option.some (AV.agg [AV.nilptr, AV.bool Bool.false]) := by kernel_rfl
@[simp] theorem t_sz86 : sizeT Go.Proofs.Try.prog 86 = Option.some 2 := by kernel_rfl
@[simp] theorem t_by86 : bytesT Go.Proofs.Try.prog 86 = Option.some 24 := by kernel_rfl
@[simp] theorem t_ag86 : isAggT Go.Proofs.Try.prog 86 = Option.some Bool.true := by kernel_rfl
@[simp] theorem t_za86 : zeroA Go.Proofs.Try.prog 86 = Option.some (AV.agg [AV.str [], AV.bool Bool.false]) := by kernel_rfl
@[simp] theorem t_sz97 : sizeT Go.Proofs.Try.prog 97 = Option.some 1 := by kernel_rfl
@[simp] theorem t_by97 : bytesT Go.Proofs.Try.prog 97 = Option.some 8 := by kernel_rfl
@[simp] theorem t_ag97 : isAggT Go.Proofs.Try.prog 97 = Option.some Bool.false := by kernel_rfl
@[simp] theorem t_za97 : zeroA Go.Proofs.Try.prog 97 = Option.some AV.nilptr := by kernel_rfl
@[simp] theorem t_sz98 : sizeT Go.Proofs.Try.prog 98 = Option.some 1 := by kernel_rfl
@[simp] theorem t_by98 : bytesT Go.Proofs.Try.prog 98 = Option.some 8 := by kernel_rfl
@[simp] theorem t_ag98 : isAggT Go.Proofs.Try.prog 98 = Option.some Bool.false := by kernel_rfl
@[simp] theorem t_za98 : zeroA Go.Proofs.Try.prog 98 = Option.some AV.nilptr := by kernel_rfl
@[simp] theorem t_sz101 : sizeT Go.Proofs.Try.prog 101 = Option.some 2 := by kernel_rfl
@[simp] theorem t_by101 : bytesT Go.Proofs.Try.prog 101 = Option.some 16 := by kernel_rfl
@[simp] theorem t_ag101 : isAggT Go.Proofs.Try.prog 101 = Option.some Bool.true := by kernel_rfl
@[simp] theorem t_za101 : zeroA Go.Proofs.Try.prog 101 = Option.some (AV.agg [AV.nilptr, AV.int IntKind.i64 (0)]) := by kernel_rfl
@[simp] theorem t_sz103 : sizeT Go.Proofs.Try.prog 103 = Option.some 1 := by kernel_rfl
@[simp] theorem t_by103 : bytesT Go.Proofs.Try.prog 103 = Option.some 8 := by kernel_rfl
@[simp] theorem t_ag103 : isAggT Go.Proofs.Try.prog 103 = Option.some Bool.false := by kernel_rfl
@[simp] theorem t_za103 : zeroA Go.Proofs.Try.prog 103 = Option.some AV.nilptr := by kernel_rfl
@[simp] theorem t_sz105 : sizeT Go.Proofs.Try.prog 105 = Option.some 3 := by kernel_rfl
@[simp] theorem t_by105 : bytesT Go.Proofs.Try.prog 105 = Option.some 32 := by kernel_rfl
@[simp] theorem t_ag105 : isAggT Go.Proofs.Try.prog 105 = Option.some Bool.true := by kernel_rfl
@[simp] theorem t_za105 : zeroA Go.Proofs.Try.prog 105 = Option.some (AV.agg [AV.str [], AV.int IntKind.i64 (0), AV.int IntKind.i64 (0)]) := by kernel_rfl
@[simp] theorem t_sz107 : sizeT Go.Proofs.Try.prog 107 = Option.some 1 := by kernel_rfl
@[simp] theorem t_by107 : bytesT Go.Proofs.Try.prog 107 = Option.some 8 := by kernel_rfl
@[simp] theorem t_ag107 : isAggT Go.Proofs.Try.prog 107 = Option.some Bool.true := by kernel_rfl
@[simp] theorem t_za107 : zeroA Go.Proofs.Try.prog 107 = Option.some (AV.agg [AV.nilptr]) := by kernel_rfl
@[simp] theorem t_sz120 : sizeT Go.Proofs.Try.prog 120 = Option.some 3 := by kernel_rfl
@[simp] theorem t_by120 : bytesT Go.Proofs.Try.prog 120 = Option.some 40 := by kernel_rfl
@[simp] theorem t_ag120 : isAggT Go.Proofs.Try.prog 120 = Option.some Bool.true := by kernel_rfl
@[simp] theorem t_za120 : zeroA Go.Proofs.Try.prog 120 = Option.some (AV.agg [AV.str [], AV.str [], AV.int IntKind.i64 (0)]) := by kernel_rfl
@[simp] theorem t_sz121 : sizeT Go.Proofs.Try.prog 121 = Option.some 1 := by kernel_rfl
@[simp] theorem t_by121 : bytesT Go.Proofs.Try.prog 121 = Option.some 24 := by kernel_rfl
@[simp] theorem t_ag121 : isAggT Go.Proofs.Try.prog 121 = Option.some Bool.false := by kernel_rfl
@[simp] theorem t_za121 : zeroA Go.Proofs.Try.prog 121 = Option.some (AV.list [] Tok.full) := by kernel_rfl
@[simp] theorem t_sz123 : sizeT Go.Proofs.Try.prog 123 = Option.some 4 := by kernel_rfl
@[simp] theorem t_by123 : bytesT Go.Proofs.Try.prog 123 = Option.some 56 := by kernel_rfl
@[simp] theorem t_ag123 : isAggT Go.Proofs.Try.prog 123 = Option.some Bool.true := by kernel_rfl
@[simp] theorem t_za123 : zeroA Go.Proofs.Try.prog 123 = Option.some (AV.agg [AV.int IntKind.i64 (0), AV.str [], AV.int IntKind.i64 (0), AV.list [] Tok.full]) := by kernel_rfl
@[simp] theorem t_sz125 : sizeT Go.Proofs.Try.prog 125 = Option.some 6 := by kernel_rfl
@[simp] theorem t_by125 : bytesT Go.Proofs.Try.prog 125 = Option.some 72 := by kernel_rfl
@[simp] theorem t_ag125 : isAggT Go.Proofs.Try.prog 125 = Option.some Bool.true := by kernel_rfl
@[simp] theorem t_za125 : zeroA Go.Proofs.Try.prog 125 = Option.some (AV.agg [AV.int IntKind.i64 (0), AV.int IntKind.i64 (0), AV.int IntKind.i64 (0), AV.str [], AV.int IntKind.i64 (0), AV.list [] Tok.full]) := by kernel_rfl
@[simp] theorem t_sz127 : sizeT Go.Proofs.Try.prog 127 = Option.some 2 := by kernel_rfl
@[simp] theorem t_by127 : bytesT Go.Proofs.Try.prog 127 = Option.some 32 := by kernel_rfl
@[simp] theorem t_ag127 : isAggT Go.Proofs.Try.prog 127 = Option.some Bool.true := by kernel_rfl
@[simp] theorem t_za127 : zeroA Go.Proofs.Try.prog 127 = Option.some (AV.agg [AV.list [] Tok.full, AV.bool Bool.false]) := by kernel_rfl
@[simp] theorem t_sz143 : sizeT Go.Proofs.Try.prog 143 = Option.some 2 := by kernel_rfl
@[simp] theorem t_by143 : bytesT Go.Proofs.Try.prog 143 = Option.some 32 := by kernel_rfl
@[simp] theorem t_ag143 : isAggT Go.Proofs.Try.prog 143 = Option.some Bool.true := by kernel_rfl
@[simp] theorem t_za143 : zeroA Go.Proofs.Try.prog 143 = Option.some (AV.agg [AV.list [] Tok.full, AV.int IntKind.i64 (0)]) := by kernel_rfl
@[simp] theorem t_sz146 : sizeT Go.Proofs.Try.prog 146 = Option.some 4 := by kernel_rfl
@[simp] theorem t_by146 : bytesT Go.Proofs.Try.prog 146 = Option.some 4 := by kernel_rfl
@[simp] theorem t_ag146 : isAggT Go.Proofs.Try.prog 146 = Option.some Bool.true := by kernel_rfl
@[simp] theorem t_za146 : zeroA Go.Proofs.Try.prog 146 = Option.some (AV.agg [AV.int IntKind.u8 (0), AV.int IntKind.u8 (0), AV.int IntKind.u8 (0), AV.int IntKind.u8 (0)]) := by kernel_rfl
@[simp] theorem t_pl24 : placesOf Go.Proofs.Try.prog 24 = some fun i => ([(0, 1), (1, 1), (2, 1)] : List (Nat × Nat)).toArray[i]? := by kernel_rfl
@[simp] theorem t_eg24 : Go.Proofs.Try.prog.eqGuardType Go.Proofs.Try.prog.depth 24 = false := by kernel_rfl
@[simp] theorem t_st24 : Go.Proofs.Try.prog.stoodInHeld 24 = false := by kernel_rfl
@[simp] theorem t_pl26 : placesOf Go.Proofs.Try.prog 26 = some fun i => ([(0, 1), (1, 1)] : List (Nat × Nat)).toArray[i]? := by kernel_rfl
@[simp] theorem t_eg26 : Go.Proofs.Try.prog.eqGuardType Go.Proofs.Try.prog.depth 26 = false := by kernel_rfl
@[simp] theorem t_st26 : Go.Proofs.Try.prog.stoodInHeld 26 = false := by kernel_rfl
@[simp] theorem t_pl30 : placesOf Go.Proofs.Try.prog 30 = some fun i => ([(0, 1), (1, 1), (2, 1), (3, 1), (4, 1), (5, 1), (6, 1), (7, 1)] : List (Nat × Nat)).toArray[i]? := by kernel_rfl
@[simp] theorem t_eg30 : Go.Proofs.Try.prog.eqGuardType Go.Proofs.Try.prog.depth 30 = false := by kernel_rfl
@[simp] theorem t_st30 : Go.Proofs.Try.prog.stoodInHeld 30 = false := by kernel_rfl
@[simp] theorem t_pl33 : placesOf Go.Proofs.Try.prog 33 = some fun i => ([(0, 1), (1, 1)] : List (Nat × Nat)).toArray[i]? := by kernel_rfl
@[simp] theorem t_eg33 : Go.Proofs.Try.prog.eqGuardType Go.Proofs.Try.prog.depth 33 = false := by kernel_rfl
@[simp] theorem t_st33 : Go.Proofs.Try.prog.stoodInHeld 33 = false := by kernel_rfl
@[simp] theorem t_pl35 : placesOf Go.Proofs.Try.prog 35 = some fun i => ([(0, 1), (1, 2), (3, 2), (5, 8), (13, 2)] : List (Nat × Nat)).toArray[i]? := by kernel_rfl
@[simp] theorem t_eg35 : Go.Proofs.Try.prog.eqGuardType Go.Proofs.Try.prog.depth 35 = false := by kernel_rfl
@[simp] theorem t_st35 : Go.Proofs.Try.prog.stoodInHeld 35 = false := by kernel_rfl
@[simp] theorem t_pl38 : placesOf Go.Proofs.Try.prog 38 = some fun i => ([(0, 1), (1, 1)] : List (Nat × Nat)).toArray[i]? := by kernel_rfl
@[simp] theorem t_eg38 : Go.Proofs.Try.prog.eqGuardType Go.Proofs.Try.prog.depth 38 = false := by kernel_rfl
@[simp] theorem t_st38 : Go.Proofs.Try.prog.stoodInHeld 38 = false := by kernel_rfl
@[simp] theorem t_pl42 : placesOf Go.Proofs.Try.prog 42 = some fun i => ([(0, 2), (2, 1), (3, 1)] : List (Nat × Nat)).toArray[i]? := by kernel_rfl
@[simp] theorem t_eg42 : Go.Proofs.Try.prog.eqGuardType Go.Proofs.Try.prog.depth 42 = false := by kernel_rfl
@[simp] theorem t_st42 : Go.Proofs.Try.prog.stoodInHeld 42 = false := by kernel_rfl
@[simp] theorem t_pl44 : placesOf Go.Proofs.Try.prog 44 = some fun i => ([(0, 1), (1, 1), (2, 1), (3, 3), (6, 2), (8, 15), (23, 4)] : List (Nat × Nat)).toArray[i]? := by kernel_rfl
@[simp] theorem t_eg44 : Go.Proofs.Try.prog.eqGuardType Go.Proofs.Try.prog.depth 44 = false := by kernel_rfl
@[simp] theorem t_st44 : Go.Proofs.Try.prog.stoodInHeld 44 = false := by kernel_rfl
@[simp] theorem t_pl46 : placesOf Go.Proofs.Try.prog 46 = some fun i => ([(0, 1), (1, 3), (4, 15), (19, 4)] : List (Nat × Nat)).toArray[i]? := by kernel_rfl
@[simp] theorem t_eg46 : Go.Proofs.Try.prog.eqGuardType Go.Proofs.Try.prog.depth 46 = false := by kernel_rfl
@[simp] theorem t_st46 : Go.Proofs.Try.prog.stoodInHeld 46 = false := by kernel_rfl
@[simp] theorem t_pl57 : placesOf Go.Proofs.Try.prog 57 = some fun i => ([(0, 1), (1, 3), (4, 15), (19, 4)] : List (Nat × Nat)).toArray[i]? := by kernel_rfl
@[simp] theorem t_eg57 : Go.Proofs.Try.prog.eqGuardType Go.Proofs.Try.prog.depth 57 = false := by kernel_rfl
@[simp] theorem t_st57 : Go.Proofs.Try.prog.stoodInHeld 57 = false := by kernel_rfl
@[simp] theorem t_pl80 : placesOf Go.Proofs.Try.prog 80 = some fun i => ([(0, 1), (1, 1)] : List (Nat × Nat)).toArray[i]? := by kernel_rfl
@[simp] theorem t_eg80 : Go.Proofs.Try.prog.eqGuardType Go.Proofs.Try.prog.depth 80 = false := by kernel_rfl
@[simp] theorem t_st80 : Go.Proofs.Try.prog.stoodInHeld 80 = false := by kernel_rfl
@[simp] theorem t_pl86 : placesOf Go.Proofs.Try.prog 86 = some fun i => ([(0, 1), (1, 1)] : List (Nat × Nat)).toArray[i]? := by kernel_rfl
@[simp] theorem t_eg86 : Go.Proofs.Try.prog.eqGuardType Go.Proofs.Try.prog.depth 86 = false := by kernel_rfl
@[simp] theorem t_st86 : Go.Proofs.Try.prog.stoodInHeld 86 = false := by kernel_rfl
@[simp] theorem t_pl101 : placesOf Go.Proofs.Try.prog 101 = some fun i => ([(0, 1), (1, 1)] : List (Nat × Nat)).toArray[i]? := by kernel_rfl
@[simp] theorem t_eg101 : Go.Proofs.Try.prog.eqGuardType Go.Proofs.Try.prog.depth 101 = false := by kernel_rfl
@[simp] theorem t_st101 : Go.Proofs.Try.prog.stoodInHeld 101 = false := by kernel_rfl
@[simp] theorem t_pl105 : placesOf Go.Proofs.Try.prog 105 = some fun i => ([(0, 1), (1, 1), (2, 1)] : List (Nat × Nat)).toArray[i]? := by kernel_rfl
@[simp] theorem t_eg105 : Go.Proofs.Try.prog.eqGuardType Go.Proofs.Try.prog.depth 105 = false := by kernel_rfl
@[simp] theorem t_st105 : Go.Proofs.Try.prog.stoodInHeld 105 = false := by kernel_rfl
@[simp] theorem t_pl107 : placesOf Go.Proofs.Try.prog 107 = some fun i => ([(0, 1)] : List (Nat × Nat)).toArray[i]? := by kernel_rfl
@[simp] theorem t_eg107 : Go.Proofs.Try.prog.eqGuardType Go.Proofs.Try.prog.depth 107 = false := by kernel_rfl
@[simp] theorem t_st107 : Go.Proofs.Try.prog.stoodInHeld 107 = false := by kernel_rfl
@[simp] theorem t_pl120 : placesOf Go.Proofs.Try.prog 120 = some fun i => ([(0, 1), (1, 1), (2, 1)] : List (Nat × Nat)).toArray[i]? := by kernel_rfl
@[simp] theorem t_eg120 : Go.Proofs.Try.prog.eqGuardType Go.Proofs.Try.prog.depth 120 = false := by kernel_rfl
@[simp] theorem t_st120 : Go.Proofs.Try.prog.stoodInHeld 120 = false := by kernel_rfl
@[simp] theorem t_pl123 : placesOf Go.Proofs.Try.prog 123 = some fun i => ([(0, 1), (1, 1), (2, 1), (3, 1)] : List (Nat × Nat)).toArray[i]? := by kernel_rfl
@[simp] theorem t_eg123 : Go.Proofs.Try.prog.eqGuardType Go.Proofs.Try.prog.depth 123 = false := by kernel_rfl
@[simp] theorem t_st123 : Go.Proofs.Try.prog.stoodInHeld 123 = false := by kernel_rfl
@[simp] theorem t_pl125 : placesOf Go.Proofs.Try.prog 125 = some fun i => ([(0, 1), (1, 1), (2, 4)] : List (Nat × Nat)).toArray[i]? := by kernel_rfl
@[simp] theorem t_eg125 : Go.Proofs.Try.prog.eqGuardType Go.Proofs.Try.prog.depth 125 = false := by kernel_rfl
@[simp] theorem t_st125 : Go.Proofs.Try.prog.stoodInHeld 125 = false := by kernel_rfl
@[simp] theorem t_pl127 : placesOf Go.Proofs.Try.prog 127 = some fun i => ([(0, 1), (1, 1)] : List (Nat × Nat)).toArray[i]? := by kernel_rfl
@[simp] theorem t_eg127 : Go.Proofs.Try.prog.eqGuardType Go.Proofs.Try.prog.depth 127 = false := by kernel_rfl
@[simp] theorem t_st127 : Go.Proofs.Try.prog.stoodInHeld 127 = false := by kernel_rfl
@[simp] theorem t_pl143 : placesOf Go.Proofs.Try.prog 143 = some fun i => ([(0, 1), (1, 1)] : List (Nat × Nat)).toArray[i]? := by kernel_rfl
@[simp] theorem t_eg143 : Go.Proofs.Try.prog.eqGuardType Go.Proofs.Try.prog.depth 143 = false := by kernel_rfl
@[simp] theorem t_st143 : Go.Proofs.Try.prog.stoodInHeld 143 = false := by kernel_rfl
@[simp] theorem t_pl146 : placesOf Go.Proofs.Try.prog 146 = some fun i => some (i * 1, 1) := by kernel_rfl
@[simp] theorem t_me76_syndic_code_bytes : methT Go.Proofs.Try.prog 76 "syndic/code.bytes" = some 28 := by kernel_rfl
@[simp] theorem t_me76_syndic_code_num : methT Go.Proofs.Try.prog 76 "syndic/code.num" = some 36 := by kernel_rfl
@[simp] theorem t_me76_syndic_code_size : methT Go.Proofs.Try.prog 76 "syndic/code.size" = some 109 := by kernel_rfl
@[simp] theorem t_me76_syndic_code_text : methT Go.Proofs.Try.prog 76 "syndic/code.text" = some 110 := by kernel_rfl
@[simp] theorem t_me77_Bytes : methT Go.Proofs.Try.prog 77 "Bytes" = some 57 := by kernel_rfl
@[simp] theorem t_me77_Num : methT Go.Proofs.Try.prog 77 "Num" = some 61 := by kernel_rfl
@[simp] theorem t_me77_Text : methT Go.Proofs.Try.prog 77 "Text" = some 111 := by kernel_rfl
@[simp] theorem t_me84_syndic_syndicref13_ballot : methT Go.Proofs.Try.prog 84 "syndic/syndicref13.ballot" = some 31 := by kernel_rfl
@[simp] theorem t_me84_syndic_syndicref13_id : methT Go.Proofs.Try.prog 84 "syndic/syndicref13.id" = some 30 := by kernel_rfl
@[simp] theorem t_me84_syndic_syndicref13_inst : methT Go.Proofs.Try.prog 84 "syndic/syndicref13.inst" = some 32 := by kernel_rfl
@[simp] theorem t_me84_syndic_syndicref13_list : methT Go.Proofs.Try.prog 84 "syndic/syndicref13.list" = some 60 := by kernel_rfl
@[simp] theorem t_me84_syndic_syndicref13_num : methT Go.Proofs.Try.prog 84 "syndic/syndicref13.num" = some 29 := by kernel_rfl
@[simp] theorem t_me84_syndic_syndicref13_snap : methT Go.Proofs.Try.prog 84 "syndic/syndicref13.snap" = some 33 := by kernel_rfl
@[simp] theorem t_me84_syndic_syndicref13_text : methT Go.Proofs.Try.prog 84 "syndic/syndicref13.text" = some 59 := by kernel_rfl
@[simp] theorem t_me97_syndic_code_end : methT Go.Proofs.Try.prog 97 "syndic/code.end" = some 40 := by kernel_rfl
@[simp] theorem t_me97_syndic_code_num : methT Go.Proofs.Try.prog 97 "syndic/code.num" = some 112 := by kernel_rfl
@[simp] theorem t_me97_syndic_code_number : methT Go.Proofs.Try.prog 97 "syndic/code.number" = some 47 := by kernel_rfl
@[simp] theorem t_me97_syndic_code_size : methT Go.Proofs.Try.prog 97 "syndic/code.size" = some 113 := by kernel_rfl
@[simp] theorem t_me97_syndic_code_stop : methT Go.Proofs.Try.prog 97 "syndic/code.stop" = some 86 := by kernel_rfl
@[simp] theorem t_me97_syndic_code_text : methT Go.Proofs.Try.prog 97 "syndic/code.text" = some 114 := by kernel_rfl
@[simp] theorem t_me98_End : methT Go.Proofs.Try.prog 98 "End" = some 62 := by kernel_rfl
@[simp] theorem t_me98_Left : methT Go.Proofs.Try.prog 98 "Left" = some 85 := by kernel_rfl
@[simp] theorem t_me98_Num : methT Go.Proofs.Try.prog 98 "Num" = some 66 := by kernel_rfl
@[simp] theorem t_me98_Text : methT Go.Proofs.Try.prog 98 "Text" = some 115 := by kernel_rfl
@[simp] theorem t_me103_End : methT Go.Proofs.Try.prog 103 "End" = some 46 := by kernel_rfl
@[simp] theorem t_me103_Num : methT Go.Proofs.Try.prog 103 "Num" = some 63 := by kernel_rfl
@[simp] theorem t_me103_Text : methT Go.Proofs.Try.prog 103 "Text" = some 81 := by kernel_rfl
attribute [simp] Go.Proofs.Try.underlying0 Go.Proofs.Try.underlying1 Go.Proofs.Try.underlying2 Go.Proofs.Try.underlying3 Go.Proofs.Try.underlying4 Go.Proofs.Try.underlying5 Go.Proofs.Try.underlying6 Go.Proofs.Try.underlying7 Go.Proofs.Try.underlying8 Go.Proofs.Try.underlying9 Go.Proofs.Try.underlying10 Go.Proofs.Try.underlying11 Go.Proofs.Try.underlying12 Go.Proofs.Try.underlying13 Go.Proofs.Try.underlying14 Go.Proofs.Try.underlying15 Go.Proofs.Try.underlying16 Go.Proofs.Try.underlying17 Go.Proofs.Try.underlying18 Go.Proofs.Try.underlying19 Go.Proofs.Try.underlying20 Go.Proofs.Try.underlying21 Go.Proofs.Try.underlying22 Go.Proofs.Try.underlying23 Go.Proofs.Try.underlying24 Go.Proofs.Try.underlying25 Go.Proofs.Try.underlying26 Go.Proofs.Try.underlying27 Go.Proofs.Try.underlying28 Go.Proofs.Try.underlying29 Go.Proofs.Try.underlying30 Go.Proofs.Try.underlying31 Go.Proofs.Try.underlying32 Go.Proofs.Try.underlying33 Go.Proofs.Try.underlying34 Go.Proofs.Try.underlying35 Go.Proofs.Try.underlying36 Go.Proofs.Try.underlying37 Go.Proofs.Try.underlying38 Go.Proofs.Try.underlying39 Go.Proofs.Try.underlying40 Go.Proofs.Try.underlying41 Go.Proofs.Try.underlying42 Go.Proofs.Try.underlying43 Go.Proofs.Try.underlying44 Go.Proofs.Try.underlying45 Go.Proofs.Try.underlying46 Go.Proofs.Try.underlying47 Go.Proofs.Try.underlying48 Go.Proofs.Try.underlying49 Go.Proofs.Try.underlying50 Go.Proofs.Try.underlying51 Go.Proofs.Try.underlying52 Go.Proofs.Try.underlying53 Go.Proofs.Try.underlying54 Go.Proofs.Try.underlying55 Go.Proofs.Try.underlying56 Go.Proofs.Try.underlying57 Go.Proofs.Try.underlying58 Go.Proofs.Try.underlying59 Go.Proofs.Try.underlying60 Go.Proofs.Try.underlying61 Go.Proofs.Try.underlying62 Go.Proofs.Try.underlying63 Go.Proofs.Try.underlying64 Go.Proofs.Try.underlying65 Go.Proofs.Try.underlying66 Go.Proofs.Try.underlying67 Go.Proofs.Try.underlying68 Go.Proofs.Try.underlying69 Go.Proofs.Try.underlying70 Go.Proofs.Try.underlying71 Go.Proofs.Try.underlying72 Go.Proofs.Try.underlying73 Go.Proofs.Try.underlying74 Go.Proofs.Try.underlying75 Go.Proofs.Try.underlying76 Go.Proofs.Try.underlying77 Go.Proofs.Try.underlying78 Go.Proofs.Try.underlying79 Go.Proofs.Try.underlying80 Go.Proofs.Try.underlying81 Go.Proofs.Try.underlying82 Go.Proofs.Try.underlying83 Go.Proofs.Try.underlying84 Go.Proofs.Try.underlying85 Go.Proofs.Try.underlying86 Go.Proofs.Try.underlying87 Go.Proofs.Try.underlying88 Go.Proofs.Try.underlying89 Go.Proofs.Try.underlying90 Go.Proofs.Try.underlying91 Go.Proofs.Try.underlying92 Go.Proofs.Try.underlying93 Go.Proofs.Try.underlying94 Go.Proofs.Try.underlying95 Go.Proofs.Try.underlying96 Go.Proofs.Try.underlying97 Go.Proofs.Try.underlying98 Go.Proofs.Try.underlying99 Go.Proofs.Try.underlying100 Go.Proofs.Try.underlying101 Go.Proofs.Try.underlying102 Go.Proofs.Try.underlying103 Go.Proofs.Try.underlying104 Go.Proofs.Try.underlying105 Go.Proofs.Try.underlying106 Go.Proofs.Try.underlying107 Go.Proofs.Try.underlying108 Go.Proofs.Try.underlying109 Go.Proofs.Try.underlying110 Go.Proofs.Try.underlying111 Go.Proofs.Try.underlying112 Go.Proofs.Try.underlying113 Go.Proofs.Try.underlying114 Go.Proofs.Try.underlying115 Go.Proofs.Try.underlying116 Go.Proofs.Try.underlying117 Go.Proofs.Try.underlying118 Go.Proofs.Try.underlying119 Go.Proofs.Try.underlying120 Go.Proofs.Try.underlying121 Go.Proofs.Try.underlying122 Go.Proofs.Try.underlying123 Go.Proofs.Try.underlying124 Go.Proofs.Try.underlying125 Go.Proofs.Try.underlying126 Go.Proofs.Try.underlying127 Go.Proofs.Try.underlying128 Go.Proofs.Try.underlying129 Go.Proofs.Try.underlying130 Go.Proofs.Try.underlying131 Go.Proofs.Try.underlying132 Go.Proofs.Try.underlying133 Go.Proofs.Try.underlying134 Go.Proofs.Try.underlying135 Go.Proofs.Try.underlying136 Go.Proofs.Try.underlying137 Go.Proofs.Try.underlying138 Go.Proofs.Try.underlying139 Go.Proofs.Try.underlying140 Go.Proofs.Try.underlying141 Go.Proofs.Try.underlying142 Go.Proofs.Try.underlying143 Go.Proofs.Try.underlying144 Go.Proofs.Try.underlying145 Go.Proofs.Try.underlying146 Go.Proofs.Try.underlying147 Go.Proofs.Try.underlying148 Go.Proofs.Try.underlying149 Go.Proofs.Try.underlying150 Go.Proofs.Try.underlying151 Go.Proofs.Try.underlying152 Go.Proofs.Try.underlying153 Go.Proofs.Try.underlying154 Go.Proofs.Try.underlying155 Go.Proofs.Try.underlying156 Go.Proofs.Try.underlying157 Go.Proofs.Try.underlying158 Go.Proofs.Try.underlying159 Go.Proofs.Try.underlying160 Go.Proofs.Try.underlying161 Go.Proofs.Try.underlying162 Go.Proofs.Try.underlying163 Go.Proofs.Try.underlying164 Go.Proofs.Try.underlying165 Go.Proofs.Try.underlying166 Go.Proofs.Try.underlying167 Go.Proofs.Try.underlying168 Go.Proofs.Try.underlying169 Go.Proofs.Try.underlying170 Go.Proofs.Try.underlying171 Go.Proofs.Try.underlying172 Go.Proofs.Try.underlying173 Go.Proofs.Try.underlying174 Go.Proofs.Try.underlying175 Go.Proofs.Try.underlying176 Go.Proofs.Try.underlying177 Go.Proofs.Try.underlying178 Go.Proofs.Try.underlying179 Go.Proofs.Try.underlying180 Go.Proofs.Try.underlying181 Go.Proofs.Try.underlying182 Go.Proofs.Try.underlying183 Go.Proofs.Try.underlying184 Go.Proofs.Try.underlying185 Go.Proofs.Try.underlying186 Go.Proofs.Try.underlying187 Go.Proofs.Try.underlying188 Go.Proofs.Try.underlying189 Go.Proofs.Try.underlying190 Go.Proofs.Try.underlying191 Go.Proofs.Try.underlying192 Go.Proofs.Try.underlying193 Go.Proofs.Try.underlying194 Go.Proofs.Try.underlying195 Go.Proofs.Try.underlying196 Go.Proofs.Try.underlying197 Go.Proofs.Try.underlying198 Go.Proofs.Try.underlying199 Go.Proofs.Try.underlying200 Go.Proofs.Try.underlying201 Go.Proofs.Try.underlying202
end Go.Proofs.Ytdoaglcnncapdaa.V
