import Derived.Test.YtcfohnfnajfahaaDoorTestC
namespace Go.Abs.TA
open Go Go.Abs
def sty (x0 x1 x2 : Bool) (f b : Int) : AVal := .agg [.bool x0, .bool x1, .bool x2, .int .i64 f, .int .i64 b]
theorem change_tree {R : Type} (m : Nat) (x0 x1 x2 : Bool) (f b n : Int) (σ : Heap) (K : AVal → Heap → Option R) :
  callC T none0 (m + 1) 54 [sty x0 x1 x2 f b, .int .i64 n] σ K =
   (let R49 := bif n == 49 then K (sty x0 x1 x2 f 0) σ else K (sty x0 x1 x2 f b) σ
    let R39 := bif n == 39 then K (sty x0 x1 x2 0 b) σ else bif decide (n ≥ 40) then (bif decide (n ≤ 47) then K (sty x0 x1 x2 f (IntKind.i64.wrap (n - 39))) σ else R49) else R49
    bif n == 0 then K (sty false false false 0 0) σ else
    bif n == 1 then K (sty (n == 1) x1 x2 f b) σ else bif n == 22 then K (sty (n == 1) x1 x2 f b) σ else
    bif n == 4 then K (sty x0 (n == 4) x2 f b) σ else bif n == 24 then K (sty x0 (n == 4) x2 f b) σ else
    bif n == 7 then K (sty x0 x1 (n == 7) f b) σ else bif n == 27 then K (sty x0 x1 (n == 7) f b) σ else
    bif decide (n ≥ 30) then (bif decide (n ≤ 37) then K (sty x0 x1 x2 (IntKind.i64.wrap (n - 29)) b) σ else R39) else R39) := by kernel_rfl
end Go.Abs.TA
