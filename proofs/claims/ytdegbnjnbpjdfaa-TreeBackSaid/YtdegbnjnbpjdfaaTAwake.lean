/- The chapter's example, evaluated. -/
import Derived.Test.YtdegbnjnbpjdfaaTLib
import Derived.Test.YtdegbnjnbpjdfaaT10
namespace Go.Proofs.Ytdegbnjnbpjdfaa.T
theorem awake_ev : Ev (fun k => roadbooklaw06_awake.f k) true := Ev.of_mono roadbooklaw06_awake.mono (K := 200) (by decide +kernel)
end Go.Proofs.Ytdegbnjnbpjdfaa.T
