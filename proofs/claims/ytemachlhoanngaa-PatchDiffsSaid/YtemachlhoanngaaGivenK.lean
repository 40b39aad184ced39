/- alive and the struct type. -/
import Derived.Test.YtemachlhoanngaaKinds
