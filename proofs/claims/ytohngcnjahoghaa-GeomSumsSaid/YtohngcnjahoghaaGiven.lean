/- What the printed texts take as given: nothing here. -/
import Derived.Test.YtohngcnjahoghaaWWords
namespace Go.Proofs.Ytohngcnjahoghaa.Given
theorem nothing : True := trivial
end Go.Proofs.Ytohngcnjahoghaa.Given
