/- A short name. -/
import Derived.Lib.Hide
namespace Go.Proofs.YtgmhnepmkaonaaaGreat
theorem hd {p : Prop} (h : p) : Go.RowKit.Hid p := Go.Lib.hid h
end Go.Proofs.YtgmhnepmkaonaaaGreat
