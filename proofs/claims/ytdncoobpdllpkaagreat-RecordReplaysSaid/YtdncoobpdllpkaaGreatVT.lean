/- The program's types, as the abstract states ask for them: written by program. -/
import Derived.Test.YtdncoobpdllpkaaGreatProg
import Derived.Test.YtdncoobpdllpkaaGreatV17
namespace Go.Proofs.YtdncoobpdllpkaaGreat.V
open Go
set_option maxRecDepth 100000
@[simp] theorem t_sz3 : sizeT Go.Proofs.Tryz.prog 3 = Option.some 1 := by kernel_rfl
@[simp] theorem t_by3 : bytesT Go.Proofs.Tryz.prog 3 = Option.some 8 := by kernel_rfl
@[simp] theorem t_ag3 : isAggT Go.Proofs.Tryz.prog 3 = Option.some Bool.false := by kernel_rfl
@[simp] theorem t_za3 : zeroA Go.Proofs.Tryz.prog 3 = Option.some (AV.int IntKind.i64 (0)) := by kernel_rfl
@[simp] theorem t_sz4 : sizeT Go.Proofs.Tryz.prog 4 = Option.some 1 := by kernel_rfl
@[simp] theorem t_by4 : bytesT Go.Proofs.Tryz.prog 4 = Option.some 1 := by kernel_rfl
@[simp] theorem t_ag4 : isAggT Go.Proofs.Tryz.prog 4 = Option.some Bool.false := by kernel_rfl
@[simp] theorem t_za4 : zeroA Go.Proofs.Tryz.prog 4 = Option.some (AV.bool Bool.false) := by kernel_rfl
@[simp] theorem t_sz5 : sizeT Go.Proofs.Tryz.prog 5 = Option.some 1 := by kernel_rfl
@[simp] theorem t_by5 : bytesT Go.Proofs.Tryz.prog 5 = Option.some 1 := by kernel_rfl
@[simp] theorem t_ag5 : isAggT Go.Proofs.Tryz.prog 5 = Option.some Bool.false := by kernel_rfl
@[simp] theorem t_za5 : zeroA Go.Proofs.Tryz.prog 5 = Option.some (AV.int IntKind.u8 (0)) := by kernel_rfl
@[simp] theorem t_sz9 : sizeT Go.Proofs.Tryz.prog 9 = Option.some 1 := by kernel_rfl
@[simp] theorem t_by9 : bytesT Go.Proofs.Tryz.prog 9 = Option.some 16 := by kernel_rfl
@[simp] theorem t_ag9 : isAggT Go.Proofs.Tryz.prog 9 = Option.some Bool.false := by kernel_rfl
@[simp] theorem t_za9 : zeroA Go.Proofs.Tryz.prog 9 = Option.some (AV.str []) := by kernel_rfl
@[simp] theorem t_sz22 : sizeT Go.Proofs.Tryz.prog 22 = Option.some 1 := by kernel_rfl
@[simp] theorem t_by22 : bytesT Go.Proofs.Tryz.prog 22 = Option.some 24 := by kernel_rfl
@[simp] theorem t_ag22 : isAggT Go.Proofs.Tryz.prog 22 = Option.some Bool.false := by kernel_rfl
@[simp] theorem t_za22 : zeroA Go.Proofs.Tryz.prog 22 = Option.some (AV.list [] Tok.full) := by kernel_rfl
@[simp] theorem t_sz24 : sizeT Go.Proofs.Tryz.prog 24 = Option.some 2 := by kernel_rfl
@[simp] theorem t_by24 : bytesT Go.Proofs.Tryz.prog 24 = Option.some 32 := by kernel_rfl
@[simp] theorem t_ag24 : isAggT Go.Proofs.Tryz.prog 24 = Option.some Bool.true := by kernel_rfl
@[simp] theorem t_za24 : zeroA Go.Proofs.Tryz.prog 24 = Option.some (AV.agg [AV.int IntKind.i64 (0), AV.list [] Tok.full]) := by kernel_rfl
@[simp] theorem t_sz25 : sizeT Go.Proofs.Tryz.prog 25 = Option.some 1 := by kernel_rfl
@[simp] theorem t_by25 : bytesT Go.Proofs.Tryz.prog 25 = Option.some 24 := by kernel_rfl
@[simp] theorem t_ag25 : isAggT Go.Proofs.Tryz.prog 25 = Option.some Bool.false := by kernel_rfl
@[simp] theorem t_za25 : zeroA Go.Proofs.Tryz.prog 25 = Option.some (AV.list [] Tok.full) := by kernel_rfl
@[simp] theorem t_sz26 : sizeT Go.Proofs.Tryz.prog 26 = Option.some 1 := by kernel_rfl
@[simp] theorem t_by26 : bytesT Go.Proofs.Tryz.prog 26 = Option.some 24 := by kernel_rfl
@[simp] theorem t_ag26 : isAggT Go.Proofs.Tryz.prog 26 = Option.some Bool.false := by kernel_rfl
@[simp] theorem t_za26 : zeroA Go.Proofs.Tryz.prog 26 = Option.some (AV.list [] Tok.full) := by kernel_rfl
@[simp] theorem t_sz28 : sizeT Go.Proofs.Tryz.prog 28 = Option.some 4 := by kernel_rfl
@[simp] theorem t_by28 : bytesT Go.Proofs.Tryz.prog 28 = Option.some 80 := by kernel_rfl
@[simp] theorem t_ag28 : isAggT Go.Proofs.Tryz.prog 28 = Option.some Bool.true := by kernel_rfl
@[simp] theorem t_za28 : zeroA Go.Proofs.Tryz.prog 28 = Option.some (AV.agg [AV.int IntKind.i64 (0), AV.list [] Tok.full, AV.list [] Tok.full, AV.list [] Tok.full]) := by kernel_rfl
@[simp] theorem t_sz29 : sizeT Go.Proofs.Tryz.prog 29 = Option.some 1 := by kernel_rfl
@[simp] theorem t_by29 : bytesT Go.Proofs.Tryz.prog 29 = Option.some 24 := by kernel_rfl
@[simp] theorem t_ag29 : isAggT Go.Proofs.Tryz.prog 29 = Option.some Bool.false := by kernel_rfl
@[simp] theorem t_za29 : zeroA Go.Proofs.Tryz.prog 29 = Option.some (AV.list [] Tok.full) := by kernel_rfl
@[simp] theorem t_sz32 : sizeT Go.Proofs.Tryz.prog 32 = Option.some 1 := by kernel_rfl
@[simp] theorem t_by32 : bytesT Go.Proofs.Tryz.prog 32 = Option.some 24 := by kernel_rfl
@[simp] theorem t_ag32 : isAggT Go.Proofs.Tryz.prog 32 = Option.some Bool.false := by kernel_rfl
@[simp] theorem t_za32 : zeroA Go.Proofs.Tryz.prog 32 = Option.some (AV.list [] Tok.full) := by kernel_rfl
@[simp] theorem t_sz33 : sizeT Go.Proofs.Tryz.prog 33 = Option.some 1 := by kernel_rfl
@[simp] theorem t_by33 : bytesT Go.Proofs.Tryz.prog 33 = Option.some 24 := by kernel_rfl
@[simp] theorem t_ag33 : isAggT Go.Proofs.Tryz.prog 33 = Option.some Bool.false := by kernel_rfl
@[simp] theorem t_za33 : zeroA Go.Proofs.Tryz.prog 33 = Option.some (AV.list [] Tok.full) := by kernel_rfl
@[simp] theorem t_sz34 : sizeT Go.Proofs.Tryz.prog 34 = Option.some 1 := by kernel_rfl
@[simp] theorem t_by34 : bytesT Go.Proofs.Tryz.prog 34 = Option.some 24 := by kernel_rfl
@[simp] theorem t_ag34 : isAggT Go.Proofs.Tryz.prog 34 = Option.some Bool.false := by kernel_rfl
@[simp] theorem t_za34 : zeroA Go.Proofs.Tryz.prog 34 = Option.some (AV.list [] Tok.full) := by kernel_rfl
@[simp] theorem t_sz35 : sizeT Go.Proofs.Tryz.prog 35 = Option.some 1 := by kernel_rfl
@[simp] theorem t_by35 : bytesT Go.Proofs.Tryz.prog 35 = Option.some 8 := by kernel_rfl
@[simp] theorem t_ag35 : isAggT Go.Proofs.Tryz.prog 35 = Option.some Bool.false := by kernel_rfl
@[simp] theorem t_za35 : zeroA Go.Proofs.Tryz.prog 35 = Option.some AV.nilmap := by kernel_rfl
@[simp] theorem t_sz37 : sizeT Go.Proofs.Tryz.prog 37 = Option.some 6 := by kernel_rfl
@[simp] theorem t_by37 : bytesT Go.Proofs.Tryz.prog 37 = Option.some 112 := by kernel_rfl
@[simp] theorem t_ag37 : isAggT Go.Proofs.Tryz.prog 37 = Option.some Bool.true := by kernel_rfl
@[simp] theorem t_za37 : zeroA Go.Proofs.Tryz.prog 37 = Option.some (AV.agg [AV.int IntKind.i64 (0), AV.list [] Tok.full, AV.list [] Tok.full, AV.list [] Tok.full, AV.list [] Tok.full, AV.nilmap]) := by kernel_rfl
@[simp] theorem t_sz39 : sizeT Go.Proofs.Tryz.prog 39 = Option.some 1 := by kernel_rfl
@[simp] theorem t_by39 : bytesT Go.Proofs.Tryz.prog 39 = Option.some 24 := by kernel_rfl
@[simp] theorem t_ag39 : isAggT Go.Proofs.Tryz.prog 39 = Option.some Bool.false := by kernel_rfl
@[simp] theorem t_za39 : zeroA Go.Proofs.Tryz.prog 39 = Option.some (AV.list [] Tok.full) := by kernel_rfl
@[simp] theorem t_sz41 : sizeT Go.Proofs.Tryz.prog 41 = Option.some 5 := by kernel_rfl
@[simp] theorem t_by41 : bytesT Go.Proofs.Tryz.prog 41 = Option.some 104 := by kernel_rfl
@[simp] theorem t_ag41 : isAggT Go.Proofs.Tryz.prog 41 = Option.some Bool.true := by kernel_rfl
@[simp] theorem t_za41 : zeroA Go.Proofs.Tryz.prog 41 = Option.some (AV.agg [AV.int IntKind.i64 (0), AV.list [] Tok.full, AV.list [] Tok.full, AV.list [] Tok.full, AV.list [] Tok.full]) := by kernel_rfl
@[simp] theorem t_sz49 : sizeT Go.Proofs.Tryz.prog 49 = Option.some 3 := by kernel_rfl
@[simp] theorem t_by49 : bytesT Go.Proofs.Tryz.prog 49 = Option.some 24 := by kernel_rfl
@[simp] theorem t_ag49 : isAggT Go.Proofs.Tryz.prog 49 = Option.some Bool.true := by kernel_rfl
@[simp] theorem t_za49 : zeroA Go.Proofs.Tryz.prog 49 = Option.some (AV.agg [AV.int IntKind.i64 (0), AV.int IntKind.i64 (0), AV.int IntKind.i64 (0)]) := by kernel_rfl
@[simp] theorem t_sz50 : sizeT Go.Proofs.Tryz.prog 50 = Option.some 1 := by kernel_rfl
@[simp] theorem t_by50 : bytesT Go.Proofs.Tryz.prog 50 = Option.some 8 := by kernel_rfl
@[simp] theorem t_ag50 : isAggT Go.Proofs.Tryz.prog 50 = Option.some Bool.false := by kernel_rfl
@[simp] theorem t_za50 : zeroA Go.Proofs.Tryz.prog 50 = Option.some (AV.int IntKind.i64 (0)) := by kernel_rfl
@[simp] theorem t_sz53 : sizeT Go.Proofs.Tryz.prog 53 = Option.some 1 := by kernel_rfl
@[simp] theorem t_by53 : bytesT Go.Proofs.Tryz.prog 53 = Option.some 8 := by kernel_rfl
@[simp] theorem t_ag53 : isAggT Go.Proofs.Tryz.prog 53 = Option.some Bool.false := by kernel_rfl
@[simp] theorem t_za53 : zeroA Go.Proofs.Tryz.prog 53 = Option.some (AV.int IntKind.i64 (0)) := by kernel_rfl
@[simp] theorem t_sz55 : sizeT Go.Proofs.Tryz.prog 55 = Option.some 2 := by kernel_rfl
@[simp] theorem t_by55 : bytesT Go.Proofs.Tryz.prog 55 = Option.some 16 := by kernel_rfl
@[simp] theorem t_ag55 : isAggT Go.Proofs.Tryz.prog 55 = Option.some Bool.true := by kernel_rfl
@[simp] theorem t_za55 : zeroA Go.Proofs.Tryz.prog 55 = Option.some (AV.agg [AV.int IntKind.i64 (0), AV.int IntKind.i64 (0)]) := by kernel_rfl
@[simp] theorem t_sz56 : sizeT Go.Proofs.Tryz.prog 56 = Option.some 1 := by kernel_rfl
@[simp] theorem t_by56 : bytesT Go.Proofs.Tryz.prog 56 = Option.some 8 := by kernel_rfl
@[simp] theorem t_ag56 : isAggT Go.Proofs.Tryz.prog 56 = Option.some Bool.false := by kernel_rfl
@[simp] theorem t_za56 : zeroA Go.Proofs.Tryz.prog 56 = Option.some (AV.int IntKind.i64 (0)) := by kernel_rfl
@[simp] theorem t_sz58 : sizeT Go.Proofs.Tryz.prog 58 = Option.some 8 := by kernel_rfl
@[simp] theorem t_by58 : bytesT Go.Proofs.Tryz.prog 58 = Option.some 80 := by kernel_rfl
@[simp] theorem t_ag58 : isAggT Go.Proofs.Tryz.prog 58 = Option.some Bool.true := by kernel_rfl
@[simp] theorem t_za58 : zeroA Go.Proofs.Tryz.prog 58 = Option.some (AV.agg [AV.int IntKind.i64 (0), AV.int IntKind.i64 (0), AV.int IntKind.i64 (0), AV.str [], AV.str [], AV.int IntKind.i64 (0), AV.int IntKind.i64 (0), AV.int IntKind.i64 (0)]) := by kernel_rfl
@[simp] theorem t_sz60 : sizeT Go.Proofs.Tryz.prog 60 = Option.some 2 := by kernel_rfl
@[simp] theorem t_by60 : bytesT Go.Proofs.Tryz.prog 60 = Option.some 32 := by kernel_rfl
@[simp] theorem t_ag60 : isAggT Go.Proofs.Tryz.prog 60 = Option.some Bool.true := by kernel_rfl
@[simp] theorem t_za60 : zeroA Go.Proofs.Tryz.prog 60 = Option.some (AV.agg [AV.int IntKind.i64 (0), AV.list [] Tok.full]) := by kernel_rfl
@[simp] theorem t_sz62 : sizeT Go.Proofs.Tryz.prog 62 = Option.some 15 := by kernel_rfl
@[simp] theorem t_by62 : bytesT Go.Proofs.Tryz.prog 62 = Option.some 152 := by kernel_rfl
@[simp] theorem t_ag62 : isAggT Go.Proofs.Tryz.prog 62 = Option.some Bool.true := by kernel_rfl
@[simp] theorem t_za62 : zeroA Go.Proofs.Tryz.prog 62 = Option.some (AV.agg [AV.int IntKind.i64 (0), AV.int IntKind.i64 (0), AV.int IntKind.i64 (0), AV.int IntKind.i64 (0), AV.int IntKind.i64 (0), AV.int IntKind.i64 (0), AV.int IntKind.i64 (0), AV.int IntKind.i64 (0), AV.str [], AV.str [], AV.int IntKind.i64 (0), AV.int IntKind.i64 (0), AV.int IntKind.i64 (0), AV.int IntKind.i64 (0), AV.list [] Tok.full]) := by kernel_rfl
@[simp] theorem t_sz64 : sizeT Go.Proofs.Tryz.prog 64 = Option.some 23 := by kernel_rfl
@[simp] theorem t_by64 : bytesT Go.Proofs.Tryz.prog 64 = Option.some 264 := by kernel_rfl
@[simp] theorem t_ag64 : isAggT Go.Proofs.Tryz.prog 64 = Option.some Bool.true := by kernel_rfl
@[simp] theorem t_za64 : zeroA Go.Proofs.Tryz.prog 64 = Option.some (AV.agg [AV.bool Bool.false, AV.int IntKind.i64 (0), AV.int IntKind.i64 (0), AV.int IntKind.i64 (0), AV.int IntKind.i64 (0), AV.int IntKind.i64 (0), AV.int IntKind.i64 (0), AV.int IntKind.i64 (0), AV.int IntKind.i64 (0), AV.int IntKind.i64 (0), AV.int IntKind.i64 (0), AV.int IntKind.i64 (0), AV.str [], AV.str [], AV.int IntKind.i64 (0), AV.int IntKind.i64 (0), AV.int IntKind.i64 (0), AV.int IntKind.i64 (0), AV.list [] Tok.full, AV.int IntKind.i64 (0), AV.list [] Tok.full, AV.list [] Tok.full, AV.list [] Tok.full]) := by kernel_rfl
@[simp] theorem t_sz67 : sizeT Go.Proofs.Tryz.prog 67 = Option.some 3 := by kernel_rfl
@[simp] theorem t_by67 : bytesT Go.Proofs.Tryz.prog 67 = Option.some 40 := by kernel_rfl
@[simp] theorem t_ag67 : isAggT Go.Proofs.Tryz.prog 67 = Option.some Bool.true := by kernel_rfl
@[simp] theorem t_za67 : zeroA Go.Proofs.Tryz.prog 67 = Option.some (AV.agg [AV.str [], AV.str [], AV.int IntKind.i64 (0)]) := by kernel_rfl
@[simp] theorem t_sz69 : sizeT Go.Proofs.Tryz.prog 69 = Option.some 4 := by kernel_rfl
@[simp] theorem t_by69 : bytesT Go.Proofs.Tryz.prog 69 = Option.some 56 := by kernel_rfl
@[simp] theorem t_ag69 : isAggT Go.Proofs.Tryz.prog 69 = Option.some Bool.true := by kernel_rfl
@[simp] theorem t_za69 : zeroA Go.Proofs.Tryz.prog 69 = Option.some (AV.agg [AV.int IntKind.i64 (0), AV.str [], AV.int IntKind.i64 (0), AV.list [] Tok.full]) := by kernel_rfl
@[simp] theorem t_sz71 : sizeT Go.Proofs.Tryz.prog 71 = Option.some 6 := by kernel_rfl
@[simp] theorem t_by71 : bytesT Go.Proofs.Tryz.prog 71 = Option.some 72 := by kernel_rfl
@[simp] theorem t_ag71 : isAggT Go.Proofs.Tryz.prog 71 = Option.some Bool.true := by kernel_rfl
@[simp] theorem t_za71 : zeroA Go.Proofs.Tryz.prog 71 = Option.some (AV.agg [AV.int IntKind.i64 (0), AV.int IntKind.i64 (0), AV.int IntKind.i64 (0), AV.str [], AV.int IntKind.i64 (0), AV.list [] Tok.full]) := by kernel_rfl
@[simp] theorem t_sz78 : sizeT Go.Proofs.Tryz.prog 78 = Option.some 23 := by kernel_rfl
@[simp] theorem t_by78 : bytesT Go.Proofs.Tryz.prog 78 = Option.some 264 := by kernel_rfl
@[simp] theorem t_ag78 : isAggT Go.Proofs.Tryz.prog 78 = Option.some Bool.true := by kernel_rfl
@[simp] theorem t_za78 : zeroA Go.Proofs.Tryz.prog 78 = Option.some (AV.agg [AV.bool Bool.false, AV.int IntKind.i64 (0), AV.int IntKind.i64 (0), AV.int IntKind.i64 (0), AV.int IntKind.i64 (0), AV.int IntKind.i64 (0), AV.int IntKind.i64 (0), AV.int IntKind.i64 (0), AV.int IntKind.i64 (0), AV.int IntKind.i64 (0), AV.int IntKind.i64 (0), AV.int IntKind.i64 (0), AV.str [], AV.str [], AV.int IntKind.i64 (0), AV.int IntKind.i64 (0), AV.int IntKind.i64 (0), AV.int IntKind.i64 (0), AV.list [] Tok.full, AV.int IntKind.i64 (0), AV.list [] Tok.full, AV.list [] Tok.full, AV.list [] Tok.full]) := by kernel_rfl
@[simp] theorem t_sz83 : sizeT Go.Proofs.Tryz.prog 83 = Option.some 18 := by kernel_rfl
@[simp] theorem t_by83 : bytesT Go.Proofs.Tryz.prog 83 = Option.some 176 := by kernel_rfl
@[simp] theorem t_ag83 : isAggT Go.Proofs.Tryz.prog 83 = Option.some Bool.true := by kernel_rfl
@[simp] theorem t_za83 : zeroA Go.Proofs.Tryz.prog 83 = Option.some (AV.agg [AV.int IntKind.i64 (0), AV.int IntKind.i64 (0), AV.int IntKind.i64 (0), AV.int IntKind.i64 (0), AV.int IntKind.i64 (0), AV.int IntKind.i64 (0), AV.int IntKind.i64 (0), AV.int IntKind.i64 (0), AV.int IntKind.i64 (0), AV.int IntKind.i64 (0), AV.int IntKind.i64 (0), AV.str [], AV.str [], AV.int IntKind.i64 (0), AV.int IntKind.i64 (0), AV.int IntKind.i64 (0), AV.int IntKind.i64 (0), AV.list [] Tok.full]) := by kernel_rfl
@[simp] theorem t_sz92 : sizeT Go.Proofs.Tryz.prog 92 = Option.some 1 := by kernel_rfl
@[simp] theorem t_by92 : bytesT Go.Proofs.Tryz.prog 92 = Option.some 8 := by kernel_rfl
@[simp] theorem t_ag92 : isAggT Go.Proofs.Tryz.prog 92 = Option.some Bool.false := by kernel_rfl
@[simp] theorem t_za92 : zeroA Go.Proofs.Tryz.prog 92 = Option.some AV.nilptr := by kernel_rfl
@[simp] theorem t_sz93 : sizeT Go.Proofs.Tryz.prog 93 = Option.some 1 := by kernel_rfl
@[simp] theorem t_by93 : bytesT Go.Proofs.Tryz.prog 93 = Option.some 8 := by kernel_rfl
@[simp] theorem t_ag93 : isAggT Go.Proofs.Tryz.prog 93 = Option.some Bool.false := by kernel_rfl
@[simp] theorem t_za93 : zeroA Go.Proofs.Tryz.prog 93 = Option.some AV.nilptr := by kernel_rfl
@[simp] theorem t_sz96 : sizeT Go.Proofs.Tryz.prog 96 = Option.some 2 := by kernel_rfl
@[simp] theorem t_by96 : bytesT Go.Proofs.Tryz.prog 96 = Option.some 16 := by kernel_rfl
@[simp] theorem t_ag96 : isAggT Go.Proofs.Tryz.prog 96 = Option.some Bool.true := by kernel_rfl
@[simp] theorem t_za96 : zeroA Go.Proofs.Tryz.prog 96 = Option.some (AV.agg [AV.nilptr, AV.bool Bool.false]) := by kernel_rfl
@[simp] theorem t_sz105 : sizeT Go.Proofs.Tryz.prog 105 = Option.some 1 := by kernel_rfl
@[simp] theorem t_by105 : bytesT Go.Proofs.Tryz.prog 105 = Option.some 8 := by kernel_rfl
@[simp] theorem t_ag105 : isAggT Go.Proofs.Tryz.prog 105 = Option.some Bool.false := by kernel_rfl
@[simp] theorem t_za105 : zeroA Go.Proofs.Tryz.prog 105 = Option.some AV.nilptr := by kernel_rfl
@[simp] theorem t_sz106 : sizeT Go.Proofs.Tryz.prog 106 = Option.some 1 := by kernel_rfl
@[simp] theorem t_by106 : bytesT Go.Proofs.Tryz.prog 106 = Option.some 8 := by kernel_rfl
@[simp] theorem t_ag106 : isAggT Go.Proofs.Tryz.prog 106 = Option.some Bool.false := by kernel_rfl
@[simp] theorem t_za106 : zeroA Go.Proofs.Tryz.prog 106 = Option.some AV.nilptr := by kernel_rfl
@[simp] theorem t_sz109 : sizeT Go.Proofs.Tryz.prog 109 = Option.some 2 := by kernel_rfl
@[simp] theorem t_by109 : bytesT Go.Proofs.Tryz.prog 109 = Option.some 16 := by kernel_rfl
@[simp] theorem t_ag109 : isAggT Go.Proofs.Tryz.prog 109 = Option.some Bool.true := by kernel_rfl
@[simp] theorem t_za109 : zeroA Go.Proofs.Tryz.prog 109 = Option.some (AV.agg [AV.nilptr, AV.int IntKind.i64 (0)]) := by kernel_rfl
@[simp] theorem t_sz112 : sizeT Go.Proofs.Tryz.prog 112 = Option.some 1 := by kernel_rfl
@[simp] theorem t_by112 : bytesT Go.Proofs.Tryz.prog 112 = Option.some 8 := by kernel_rfl
@[simp] theorem t_ag112 : isAggT Go.Proofs.Tryz.prog 112 = Option.some Bool.false := by kernel_rfl
@[simp] theorem t_za112 : zeroA Go.Proofs.Tryz.prog 112 = Option.some AV.nilptr := by kernel_rfl
@[simp] theorem t_sz114 : sizeT Go.Proofs.Tryz.prog 114 = Option.some 3 := by kernel_rfl
@[simp] theorem t_by114 : bytesT Go.Proofs.Tryz.prog 114 = Option.some 32 := by kernel_rfl
@[simp] theorem t_ag114 : isAggT Go.Proofs.Tryz.prog 114 = Option.some Bool.true := by kernel_rfl
@[simp] theorem t_za114 : zeroA Go.Proofs.Tryz.prog 114 = Option.some (AV.agg [AV.str [], AV.int IntKind.i64 (0), AV.int IntKind.i64 (0)]) := by kernel_rfl
@[simp] theorem t_sz116 : sizeT Go.Proofs.Tryz.prog 116 = Option.some 1 := by kernel_rfl
@[simp] theorem t_by116 : bytesT Go.Proofs.Tryz.prog 116 = Option.some 8 := by kernel_rfl
@[simp] theorem t_ag116 : isAggT Go.Proofs.Tryz.prog 116 = Option.some Bool.true := by kernel_rfl
@[simp] theorem t_za116 : zeroA Go.Proofs.Tryz.prog 116 = Option.some (AV.agg [AV.nilptr]) := by kernel_rfl
@[simp] theorem t_sz125 : sizeT Go.Proofs.Tryz.prog 125 = Option.some 2 := by kernel_rfl
@[simp] theorem t_by125 : bytesT Go.Proofs.Tryz.prog 125 = Option.some 32 := by kernel_rfl
@[simp] theorem t_ag125 : isAggT Go.Proofs.Tryz.prog 125 = Option.some Bool.true := by kernel_rfl
@[simp] theorem t_za125 : zeroA Go.Proofs.Tryz.prog 125 = Option.some (AV.agg [AV.list [] Tok.full, AV.bool Bool.false]) := by kernel_rfl
@[simp] theorem t_sz138 : sizeT Go.Proofs.Tryz.prog 138 = Option.some 1 := by kernel_rfl
@[simp] theorem t_by138 : bytesT Go.Proofs.Tryz.prog 138 = Option.some 8 := by kernel_rfl
@[simp] theorem t_ag138 : isAggT Go.Proofs.Tryz.prog 138 = Option.some Bool.false := by kernel_rfl
@[simp] theorem t_za138 : zeroA Go.Proofs.Tryz.prog 138 = Option.some AV.nilmap := by kernel_rfl
@[simp] theorem t_sz142 : sizeT Go.Proofs.Tryz.prog 142 = Option.some 2 := by kernel_rfl
@[simp] theorem t_by142 : bytesT Go.Proofs.Tryz.prog 142 = Option.some 32 := by kernel_rfl
@[simp] theorem t_ag142 : isAggT Go.Proofs.Tryz.prog 142 = Option.some Bool.true := by kernel_rfl
@[simp] theorem t_za142 : zeroA Go.Proofs.Tryz.prog 142 = Option.some (AV.agg [AV.list [] Tok.full, AV.int IntKind.i64 (0)]) := by kernel_rfl
@[simp] theorem t_pl24 : placesOf Go.Proofs.Tryz.prog 24 = some fun i => ([(0, 1), (1, 1)] : List (Nat × Nat)).toArray[i]? := by kernel_rfl
@[simp] theorem t_eg24 : Go.Proofs.Tryz.prog.eqGuardType Go.Proofs.Tryz.prog.depth 24 = false := by kernel_rfl
@[simp] theorem t_st24 : Go.Proofs.Tryz.prog.stoodInHeld 24 = false := by kernel_rfl
@[simp] theorem t_pl28 : placesOf Go.Proofs.Tryz.prog 28 = some fun i => ([(0, 2), (2, 1), (3, 1)] : List (Nat × Nat)).toArray[i]? := by kernel_rfl
@[simp] theorem t_eg28 : Go.Proofs.Tryz.prog.eqGuardType Go.Proofs.Tryz.prog.depth 28 = false := by kernel_rfl
@[simp] theorem t_st28 : Go.Proofs.Tryz.prog.stoodInHeld 28 = false := by kernel_rfl
@[simp] theorem t_pl37 : placesOf Go.Proofs.Tryz.prog 37 = some fun i => ([(0, 4), (4, 1), (5, 1)] : List (Nat × Nat)).toArray[i]? := by kernel_rfl
@[simp] theorem t_eg37 : Go.Proofs.Tryz.prog.eqGuardType Go.Proofs.Tryz.prog.depth 37 = false := by kernel_rfl
@[simp] theorem t_st37 : Go.Proofs.Tryz.prog.stoodInHeld 37 = false := by kernel_rfl
@[simp] theorem t_pl41 : placesOf Go.Proofs.Tryz.prog 41 = some fun i => ([(0, 4), (4, 1)] : List (Nat × Nat)).toArray[i]? := by kernel_rfl
@[simp] theorem t_eg41 : Go.Proofs.Tryz.prog.eqGuardType Go.Proofs.Tryz.prog.depth 41 = false := by kernel_rfl
@[simp] theorem t_st41 : Go.Proofs.Tryz.prog.stoodInHeld 41 = false := by kernel_rfl
@[simp] theorem t_pl49 : placesOf Go.Proofs.Tryz.prog 49 = some fun i => ([(0, 1), (1, 1), (2, 1)] : List (Nat × Nat)).toArray[i]? := by kernel_rfl
@[simp] theorem t_eg49 : Go.Proofs.Tryz.prog.eqGuardType Go.Proofs.Tryz.prog.depth 49 = false := by kernel_rfl
@[simp] theorem t_st49 : Go.Proofs.Tryz.prog.stoodInHeld 49 = false := by kernel_rfl
@[simp] theorem t_pl55 : placesOf Go.Proofs.Tryz.prog 55 = some fun i => ([(0, 1), (1, 1)] : List (Nat × Nat)).toArray[i]? := by kernel_rfl
@[simp] theorem t_eg55 : Go.Proofs.Tryz.prog.eqGuardType Go.Proofs.Tryz.prog.depth 55 = false := by kernel_rfl
@[simp] theorem t_st55 : Go.Proofs.Tryz.prog.stoodInHeld 55 = false := by kernel_rfl
@[simp] theorem t_pl58 : placesOf Go.Proofs.Tryz.prog 58 = some fun i => ([(0, 1), (1, 1), (2, 1), (3, 1), (4, 1), (5, 1), (6, 1), (7, 1)] : List (Nat × Nat)).toArray[i]? := by kernel_rfl
@[simp] theorem t_eg58 : Go.Proofs.Tryz.prog.eqGuardType Go.Proofs.Tryz.prog.depth 58 = false := by kernel_rfl
@[simp] theorem t_st58 : Go.Proofs.Tryz.prog.stoodInHeld 58 = false := by kernel_rfl
@[simp] theorem t_pl60 : placesOf Go.Proofs.Tryz.prog 60 = some fun i => ([(0, 1), (1, 1)] : List (Nat × Nat)).toArray[i]? := by kernel_rfl
@[simp] theorem t_eg60 : Go.Proofs.Tryz.prog.eqGuardType Go.Proofs.Tryz.prog.depth 60 = false := by kernel_rfl
@[simp] theorem t_st60 : Go.Proofs.Tryz.prog.stoodInHeld 60 = false := by kernel_rfl
@[simp] theorem t_pl62 : placesOf Go.Proofs.Tryz.prog 62 = some fun i => ([(0, 1), (1, 2), (3, 2), (5, 8), (13, 2)] : List (Nat × Nat)).toArray[i]? := by kernel_rfl
@[simp] theorem t_eg62 : Go.Proofs.Tryz.prog.eqGuardType Go.Proofs.Tryz.prog.depth 62 = false := by kernel_rfl
@[simp] theorem t_st62 : Go.Proofs.Tryz.prog.stoodInHeld 62 = false := by kernel_rfl
@[simp] theorem t_pl64 : placesOf Go.Proofs.Tryz.prog 64 = some fun i => ([(0, 1), (1, 3), (4, 15), (19, 4)] : List (Nat × Nat)).toArray[i]? := by kernel_rfl
@[simp] theorem t_eg64 : Go.Proofs.Tryz.prog.eqGuardType Go.Proofs.Tryz.prog.depth 64 = false := by kernel_rfl
@[simp] theorem t_st64 : Go.Proofs.Tryz.prog.stoodInHeld 64 = false := by kernel_rfl
@[simp] theorem t_pl67 : placesOf Go.Proofs.Tryz.prog 67 = some fun i => ([(0, 1), (1, 1), (2, 1)] : List (Nat × Nat)).toArray[i]? := by kernel_rfl
@[simp] theorem t_eg67 : Go.Proofs.Tryz.prog.eqGuardType Go.Proofs.Tryz.prog.depth 67 = false := by kernel_rfl
@[simp] theorem t_st67 : Go.Proofs.Tryz.prog.stoodInHeld 67 = false := by kernel_rfl
@[simp] theorem t_pl69 : placesOf Go.Proofs.Tryz.prog 69 = some fun i => ([(0, 1), (1, 1), (2, 1), (3, 1)] : List (Nat × Nat)).toArray[i]? := by kernel_rfl
@[simp] theorem t_eg69 : Go.Proofs.Tryz.prog.eqGuardType Go.Proofs.Tryz.prog.depth 69 = false := by kernel_rfl
@[simp] theorem t_st69 : Go.Proofs.Tryz.prog.stoodInHeld 69 = false := by kernel_rfl
@[simp] theorem t_pl71 : placesOf Go.Proofs.Tryz.prog 71 = some fun i => ([(0, 1), (1, 1), (2, 4)] : List (Nat × Nat)).toArray[i]? := by kernel_rfl
@[simp] theorem t_eg71 : Go.Proofs.Tryz.prog.eqGuardType Go.Proofs.Tryz.prog.depth 71 = false := by kernel_rfl
@[simp] theorem t_st71 : Go.Proofs.Tryz.prog.stoodInHeld 71 = false := by kernel_rfl
@[simp] theorem t_pl78 : placesOf Go.Proofs.Tryz.prog 78 = some fun i => ([(0, 1), (1, 3), (4, 15), (19, 4)] : List (Nat × Nat)).toArray[i]? := by kernel_rfl
@[simp] theorem t_eg78 : Go.Proofs.Tryz.prog.eqGuardType Go.Proofs.Tryz.prog.depth 78 = false := by kernel_rfl
@[simp] theorem t_st78 : Go.Proofs.Tryz.prog.stoodInHeld 78 = false := by kernel_rfl
@[simp] theorem t_pl83 : placesOf Go.Proofs.Tryz.prog 83 = some fun i => ([(0, 3), (3, 15)] : List (Nat × Nat)).toArray[i]? := by kernel_rfl
@[simp] theorem t_eg83 : Go.Proofs.Tryz.prog.eqGuardType Go.Proofs.Tryz.prog.depth 83 = false := by kernel_rfl
@[simp] theorem t_st83 : Go.Proofs.Tryz.prog.stoodInHeld 83 = false := by kernel_rfl
@[simp] theorem t_pl96 : placesOf Go.Proofs.Tryz.prog 96 = some fun i => ([(0, 1), (1, 1)] : List (Nat × Nat)).toArray[i]? := by kernel_rfl
@[simp] theorem t_eg96 : Go.Proofs.Tryz.prog.eqGuardType Go.Proofs.Tryz.prog.depth 96 = false := by kernel_rfl
@[simp] theorem t_st96 : Go.Proofs.Tryz.prog.stoodInHeld 96 = false := by kernel_rfl
@[simp] theorem t_pl109 : placesOf Go.Proofs.Tryz.prog 109 = some fun i => ([(0, 1), (1, 1)] : List (Nat × Nat)).toArray[i]? := by kernel_rfl
@[simp] theorem t_eg109 : Go.Proofs.Tryz.prog.eqGuardType Go.Proofs.Tryz.prog.depth 109 = false := by kernel_rfl
@[simp] theorem t_st109 : Go.Proofs.Tryz.prog.stoodInHeld 109 = false := by kernel_rfl
@[simp] theorem t_pl114 : placesOf Go.Proofs.Tryz.prog 114 = some fun i => ([(0, 1), (1, 1), (2, 1)] : List (Nat × Nat)).toArray[i]? := by kernel_rfl
@[simp] theorem t_eg114 : Go.Proofs.Tryz.prog.eqGuardType Go.Proofs.Tryz.prog.depth 114 = false := by kernel_rfl
@[simp] theorem t_st114 : Go.Proofs.Tryz.prog.stoodInHeld 114 = false := by kernel_rfl
@[simp] theorem t_pl116 : placesOf Go.Proofs.Tryz.prog 116 = some fun i => ([(0, 1)] : List (Nat × Nat)).toArray[i]? := by kernel_rfl
@[simp] theorem t_eg116 : Go.Proofs.Tryz.prog.eqGuardType Go.Proofs.Tryz.prog.depth 116 = false := by kernel_rfl
@[simp] theorem t_st116 : Go.Proofs.Tryz.prog.stoodInHeld 116 = false := by kernel_rfl
@[simp] theorem t_pl125 : placesOf Go.Proofs.Tryz.prog 125 = some fun i => ([(0, 1), (1, 1)] : List (Nat × Nat)).toArray[i]? := by kernel_rfl
@[simp] theorem t_eg125 : Go.Proofs.Tryz.prog.eqGuardType Go.Proofs.Tryz.prog.depth 125 = false := by kernel_rfl
@[simp] theorem t_st125 : Go.Proofs.Tryz.prog.stoodInHeld 125 = false := by kernel_rfl
@[simp] theorem t_pl142 : placesOf Go.Proofs.Tryz.prog 142 = some fun i => ([(0, 1), (1, 1)] : List (Nat × Nat)).toArray[i]? := by kernel_rfl
@[simp] theorem t_eg142 : Go.Proofs.Tryz.prog.eqGuardType Go.Proofs.Tryz.prog.depth 142 = false := by kernel_rfl
@[simp] theorem t_st142 : Go.Proofs.Tryz.prog.stoodInHeld 142 = false := by kernel_rfl
@[simp] theorem t_me92_syndic_code_bytes : methT Go.Proofs.Tryz.prog 92 "syndic/code.bytes" = some 35 := by kernel_rfl
@[simp] theorem t_me92_syndic_code_num : methT Go.Proofs.Tryz.prog 92 "syndic/code.num" = some 33 := by kernel_rfl
@[simp] theorem t_me92_syndic_code_size : methT Go.Proofs.Tryz.prog 92 "syndic/code.size" = some 134 := by kernel_rfl
@[simp] theorem t_me92_syndic_code_text : methT Go.Proofs.Tryz.prog 92 "syndic/code.text" = some 135 := by kernel_rfl
@[simp] theorem t_me93_Bytes : methT Go.Proofs.Tryz.prog 93 "Bytes" = some 57 := by kernel_rfl
@[simp] theorem t_me93_Num : methT Go.Proofs.Tryz.prog 93 "Num" = some 53 := by kernel_rfl
@[simp] theorem t_me93_Text : methT Go.Proofs.Tryz.prog 93 "Text" = some 136 := by kernel_rfl
@[simp] theorem t_me105_syndic_code_end : methT Go.Proofs.Tryz.prog 105 "syndic/code.end" = some 41 := by kernel_rfl
@[simp] theorem t_me105_syndic_code_num : methT Go.Proofs.Tryz.prog 105 "syndic/code.num" = some 137 := by kernel_rfl
@[simp] theorem t_me105_syndic_code_number : methT Go.Proofs.Tryz.prog 105 "syndic/code.number" = some 40 := by kernel_rfl
@[simp] theorem t_me105_syndic_code_size : methT Go.Proofs.Tryz.prog 105 "syndic/code.size" = some 138 := by kernel_rfl
@[simp] theorem t_me105_syndic_code_stop : methT Go.Proofs.Tryz.prog 105 "syndic/code.stop" = some 86 := by kernel_rfl
@[simp] theorem t_me105_syndic_code_text : methT Go.Proofs.Tryz.prog 105 "syndic/code.text" = some 139 := by kernel_rfl
@[simp] theorem t_me106_End : methT Go.Proofs.Tryz.prog 106 "End" = some 63 := by kernel_rfl
@[simp] theorem t_me106_Left : methT Go.Proofs.Tryz.prog 106 "Left" = some 85 := by kernel_rfl
@[simp] theorem t_me106_Num : methT Go.Proofs.Tryz.prog 106 "Num" = some 62 := by kernel_rfl
@[simp] theorem t_me106_Text : methT Go.Proofs.Tryz.prog 106 "Text" = some 140 := by kernel_rfl
@[simp] theorem t_me112_End : methT Go.Proofs.Tryz.prog 112 "End" = some 46 := by kernel_rfl
@[simp] theorem t_me112_Num : methT Go.Proofs.Tryz.prog 112 "Num" = some 64 := by kernel_rfl
@[simp] theorem t_me112_Text : methT Go.Proofs.Tryz.prog 112 "Text" = some 84 := by kernel_rfl
@[simp] theorem t_me212_Next : methT Go.Proofs.Tryz.prog 212 "Next" = some 114 := by kernel_rfl
attribute [simp] Go.Proofs.Tryz.underlying0 Go.Proofs.Tryz.underlying1 Go.Proofs.Tryz.underlying2 Go.Proofs.Tryz.underlying3 Go.Proofs.Tryz.underlying4 Go.Proofs.Tryz.underlying5 Go.Proofs.Tryz.underlying6 Go.Proofs.Tryz.underlying7 Go.Proofs.Tryz.underlying8 Go.Proofs.Tryz.underlying9 Go.Proofs.Tryz.underlying10 Go.Proofs.Tryz.underlying11 Go.Proofs.Tryz.underlying12 Go.Proofs.Tryz.underlying13 Go.Proofs.Tryz.underlying14 Go.Proofs.Tryz.underlying15 Go.Proofs.Tryz.underlying16 Go.Proofs.Tryz.underlying17 Go.Proofs.Tryz.underlying18 Go.Proofs.Tryz.underlying19 Go.Proofs.Tryz.underlying20 Go.Proofs.Tryz.underlying21 Go.Proofs.Tryz.underlying22 Go.Proofs.Tryz.underlying23 Go.Proofs.Tryz.underlying24 Go.Proofs.Tryz.underlying25 Go.Proofs.Tryz.underlying26 Go.Proofs.Tryz.underlying27 Go.Proofs.Tryz.underlying28 Go.Proofs.Tryz.underlying29 Go.Proofs.Tryz.underlying30 Go.Proofs.Tryz.underlying31 Go.Proofs.Tryz.underlying32 Go.Proofs.Tryz.underlying33 Go.Proofs.Tryz.underlying34 Go.Proofs.Tryz.underlying35 Go.Proofs.Tryz.underlying36 Go.Proofs.Tryz.underlying37 Go.Proofs.Tryz.underlying38 Go.Proofs.Tryz.underlying39 Go.Proofs.Tryz.underlying40 Go.Proofs.Tryz.underlying41 Go.Proofs.Tryz.underlying42 Go.Proofs.Tryz.underlying43 Go.Proofs.Tryz.underlying44 Go.Proofs.Tryz.underlying45 Go.Proofs.Tryz.underlying46 Go.Proofs.Tryz.underlying47 Go.Proofs.Tryz.underlying48 Go.Proofs.Tryz.underlying49 Go.Proofs.Tryz.underlying50 Go.Proofs.Tryz.underlying51 Go.Proofs.Tryz.underlying52 Go.Proofs.Tryz.underlying53 Go.Proofs.Tryz.underlying54 Go.Proofs.Tryz.underlying55 Go.Proofs.Tryz.underlying56 Go.Proofs.Tryz.underlying57 Go.Proofs.Tryz.underlying58 Go.Proofs.Tryz.underlying59 Go.Proofs.Tryz.underlying60 Go.Proofs.Tryz.underlying61 Go.Proofs.Tryz.underlying62 Go.Proofs.Tryz.underlying63 Go.Proofs.Tryz.underlying64 Go.Proofs.Tryz.underlying65 Go.Proofs.Tryz.underlying66 Go.Proofs.Tryz.underlying67 Go.Proofs.Tryz.underlying68 Go.Proofs.Tryz.underlying69 Go.Proofs.Tryz.underlying70 Go.Proofs.Tryz.underlying71 Go.Proofs.Tryz.underlying72 Go.Proofs.Tryz.underlying73 Go.Proofs.Tryz.underlying74 Go.Proofs.Tryz.underlying75 Go.Proofs.Tryz.underlying76 Go.Proofs.Tryz.underlying77 Go.Proofs.Tryz.underlying78 Go.Proofs.Tryz.underlying79 Go.Proofs.Tryz.underlying80 Go.Proofs.Tryz.underlying81 Go.Proofs.Tryz.underlying82 Go.Proofs.Tryz.underlying83 Go.Proofs.Tryz.underlying84 Go.Proofs.Tryz.underlying85 Go.Proofs.Tryz.underlying86 Go.Proofs.Tryz.underlying87 Go.Proofs.Tryz.underlying88 Go.Proofs.Tryz.underlying89 Go.Proofs.Tryz.underlying90 Go.Proofs.Tryz.underlying91 Go.Proofs.Tryz.underlying92 Go.Proofs.Tryz.underlying93 Go.Proofs.Tryz.underlying94 Go.Proofs.Tryz.underlying95 Go.Proofs.Tryz.underlying96 Go.Proofs.Tryz.underlying97 Go.Proofs.Tryz.underlying98 Go.Proofs.Tryz.underlying99 Go.Proofs.Tryz.underlying100 Go.Proofs.Tryz.underlying101 Go.Proofs.Tryz.underlying102 Go.Proofs.Tryz.underlying103 Go.Proofs.Tryz.underlying104 Go.Proofs.Tryz.underlying105 Go.Proofs.Tryz.underlying106 Go.Proofs.Tryz.underlying107 Go.Proofs.Tryz.underlying108 Go.Proofs.Tryz.underlying109 Go.Proofs.Tryz.underlying110 Go.Proofs.Tryz.underlying111 Go.Proofs.Tryz.underlying112 Go.Proofs.Tryz.underlying113 Go.Proofs.Tryz.underlying114 Go.Proofs.Tryz.underlying115 Go.Proofs.Tryz.underlying116 Go.Proofs.Tryz.underlying117 Go.Proofs.Tryz.underlying118 Go.Proofs.Tryz.underlying119 Go.Proofs.Tryz.underlying120 Go.Proofs.Tryz.underlying121 Go.Proofs.Tryz.underlying122 Go.Proofs.Tryz.underlying123 Go.Proofs.Tryz.underlying124 Go.Proofs.Tryz.underlying125 Go.Proofs.Tryz.underlying126 Go.Proofs.Tryz.underlying127 Go.Proofs.Tryz.underlying128 Go.Proofs.Tryz.underlying129 Go.Proofs.Tryz.underlying130 Go.Proofs.Tryz.underlying131 Go.Proofs.Tryz.underlying132 Go.Proofs.Tryz.underlying133 Go.Proofs.Tryz.underlying134 Go.Proofs.Tryz.underlying135 Go.Proofs.Tryz.underlying136 Go.Proofs.Tryz.underlying137 Go.Proofs.Tryz.underlying138 Go.Proofs.Tryz.underlying139 Go.Proofs.Tryz.underlying140 Go.Proofs.Tryz.underlying141 Go.Proofs.Tryz.underlying142 Go.Proofs.Tryz.underlying143 Go.Proofs.Tryz.underlying144 Go.Proofs.Tryz.underlying145 Go.Proofs.Tryz.underlying146 Go.Proofs.Tryz.underlying147 Go.Proofs.Tryz.underlying148 Go.Proofs.Tryz.underlying149 Go.Proofs.Tryz.underlying150 Go.Proofs.Tryz.underlying151 Go.Proofs.Tryz.underlying152 Go.Proofs.Tryz.underlying153 Go.Proofs.Tryz.underlying154 Go.Proofs.Tryz.underlying155 Go.Proofs.Tryz.underlying156 Go.Proofs.Tryz.underlying157 Go.Proofs.Tryz.underlying158 Go.Proofs.Tryz.underlying159 Go.Proofs.Tryz.underlying160 Go.Proofs.Tryz.underlying161 Go.Proofs.Tryz.underlying162 Go.Proofs.Tryz.underlying163 Go.Proofs.Tryz.underlying164 Go.Proofs.Tryz.underlying165 Go.Proofs.Tryz.underlying166 Go.Proofs.Tryz.underlying167 Go.Proofs.Tryz.underlying168 Go.Proofs.Tryz.underlying169 Go.Proofs.Tryz.underlying170 Go.Proofs.Tryz.underlying171 Go.Proofs.Tryz.underlying172 Go.Proofs.Tryz.underlying173 Go.Proofs.Tryz.underlying174 Go.Proofs.Tryz.underlying175 Go.Proofs.Tryz.underlying176 Go.Proofs.Tryz.underlying177 Go.Proofs.Tryz.underlying178 Go.Proofs.Tryz.underlying179 Go.Proofs.Tryz.underlying180 Go.Proofs.Tryz.underlying181 Go.Proofs.Tryz.underlying182 Go.Proofs.Tryz.underlying183 Go.Proofs.Tryz.underlying184 Go.Proofs.Tryz.underlying185 Go.Proofs.Tryz.underlying186 Go.Proofs.Tryz.underlying187 Go.Proofs.Tryz.underlying188 Go.Proofs.Tryz.underlying189 Go.Proofs.Tryz.underlying190 Go.Proofs.Tryz.underlying191 Go.Proofs.Tryz.underlying192 Go.Proofs.Tryz.underlying193 Go.Proofs.Tryz.underlying194 Go.Proofs.Tryz.underlying195 Go.Proofs.Tryz.underlying196 Go.Proofs.Tryz.underlying197 Go.Proofs.Tryz.underlying198 Go.Proofs.Tryz.underlying199 Go.Proofs.Tryz.underlying200 Go.Proofs.Tryz.underlying201 Go.Proofs.Tryz.underlying202 Go.Proofs.Tryz.underlying203 Go.Proofs.Tryz.underlying204 Go.Proofs.Tryz.underlying205 Go.Proofs.Tryz.underlying206 Go.Proofs.Tryz.underlying207 Go.Proofs.Tryz.underlying208 Go.Proofs.Tryz.underlying209 Go.Proofs.Tryz.underlying210 Go.Proofs.Tryz.underlying211 Go.Proofs.Tryz.underlying212 Go.Proofs.Tryz.underlying213 Go.Proofs.Tryz.underlying214 Go.Proofs.Tryz.underlying215 Go.Proofs.Tryz.underlying216 Go.Proofs.Tryz.underlying217 Go.Proofs.Tryz.underlying218 Go.Proofs.Tryz.underlying219 Go.Proofs.Tryz.underlying220 Go.Proofs.Tryz.underlying221 Go.Proofs.Tryz.underlying222 Go.Proofs.Tryz.underlying223 Go.Proofs.Tryz.underlying224 Go.Proofs.Tryz.underlying225 Go.Proofs.Tryz.underlying226 Go.Proofs.Tryz.underlying227 Go.Proofs.Tryz.underlying228 Go.Proofs.Tryz.underlying229
end Go.Proofs.YtdncoobpdllpkaaGreat.V
