/- All walks. -/
import Derived.Test.YtnlnojicpchmiaaDoorXFn3
