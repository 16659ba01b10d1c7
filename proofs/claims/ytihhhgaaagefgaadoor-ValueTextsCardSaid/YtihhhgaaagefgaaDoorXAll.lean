/- All walks. -/
import Derived.Test.YtihhhgaaagefgaaDoorXFn1
